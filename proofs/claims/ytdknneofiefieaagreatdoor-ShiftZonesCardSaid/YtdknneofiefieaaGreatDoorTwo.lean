import Derived.Test.YtdknneofiefieaaGreatDoorPm
import Derived.Test.YtdknneofiefieaaGreatDoorAwP

namespace Go.Proofs.YtdknneofiefieaaGreatDoor
open Go.RowKit Go.Lib Rt Geo Sh

theorem two_pm {m : World} {g g' : Nat} {a b n : Int}
    (hg : m.heap[g]? = some (.cells #[.int .i64 0, .int .i64 0, .int .i64 20, .int .i64 24, .int .i64 4, .int .i64 1, .bool false, .int .i64 50, .int .i64 0, .int .i64 20, .int .i64 24, .int .i64 4, .int .i64 1, .bool false] 85 (0, 0)))
    (hg' : m.heap[g']? = some (.cells #[.int .i64 a, .int .i64 0, .int .i64 n, .int .i64 b, .int .i64 0, .int .i64 n] 75 (0, 0))) : PM m g 0 g' 0 (two a b n) := by
  constructor
  · intro k p hp
    unfold two at hp
    match k, hp with
    | 0, hp =>
      cases hp
      exact ⟨cell_of_row m g 0 _ _ _ hg, cell_of_row m g 1 _ _ _ hg, cell_of_row m g 2 _ _ _ hg, cell_of_row m g 3 _ _ _ hg, cell_of_row m g 4 _ _ _ hg, cell_of_row m g 5 _ _ _ hg, cell_of_row m g 6 _ _ _ hg⟩
    | 1, hp =>
      cases hp
      exact ⟨cell_of_row m g 7 _ _ _ hg, cell_of_row m g 8 _ _ _ hg, cell_of_row m g 9 _ _ _ hg, cell_of_row m g 10 _ _ _ hg, cell_of_row m g 11 _ _ _ hg, cell_of_row m g 12 _ _ _ hg, cell_of_row m g 13 _ _ _ hg⟩
    | k + 2, hp => simp at hp
  · intro k p hp
    unfold two at hp
    match k, hp with
    | 0, hp =>
      cases hp
      exact ⟨cell_of_row m g' 0 _ _ _ hg', cell_of_row m g' 1 _ _ _ hg', cell_of_row m g' 2 _ _ _ hg'⟩
    | 1, hp =>
      cases hp
      exact ⟨cell_of_row m g' 3 _ _ _ hg', cell_of_row m g' 4 _ _ _ hg', cell_of_row m g' 5 _ _ _ hg'⟩
    | k + 2, hp => simp at hp

set_option maxRecDepth 100000 in
set_option maxHeartbeats 2000000 in
theorem two_c (a b n : Int) (w : World) :
    Calls Tryz.prog 39 #[.int .i64 a, .int .i64 b, .int .i64 n] w fun e w' => (∃ g g', e = .returned (.agg (tkv g 0 2 2 g' 0 2 (-1))) ∧ PM w' g 0 g' 0 (two a b n)) ∧ Below w.heap.size w w' := by
  go_enter Tryz.func39, Tryz.ntmps39
  go_wp2_with fail
  have B : ∀ o1 o2 o3 o4 : Obj, Below w.heap.size w ((((w.alloc o1).alloc o2).alloc o3).alloc o4) := fun o1 o2 o3 o4 => ((((Below.refl _ w).alloc (Nat.le_refl _) o1).alloc (by simp) o2).alloc (by simp; omega) o3).alloc (by simp; omega) o4
  have Q1 : ∀ o1 o2 o3 o4 : Obj, ((((w.alloc o1).alloc o2).alloc o3).alloc o4).heap[w.heap.size]? = some o1 := fun o1 o2 o3 o4 => (Below.heap_alloc _ _ _ (by simp; omega)).trans (bx1 w o1 o2 o3)
  have Q3 : ∀ o1 o2 o3 o4 : Obj, ((((w.alloc o1).alloc o2).alloc o3).alloc o4).heap[w.heap.size + 1 + 1]? = some o3 := fun o1 o2 o3 o4 => (Below.heap_alloc _ _ _ (by simp)).trans (bx3 w o1 o2 o3)
  have Q4 : ∀ o1 o2 o3 o4 : Obj, ((((w.alloc o1).alloc o2).alloc o3).alloc o4).heap[w.heap.size + 1 + 1 + 1]? = some o4 := fun o1 o2 o3 o4 => by
    have := heap_alloc_new (((w.alloc o1).alloc o2).alloc o3) o4
    rwa [World.size_alloc, World.size_alloc, World.size_alloc] at this
  refine bodyPost_ret (v := .agg (tkv (w.heap.size + 1 + 1) 0 2 2 (w.heap.size + 1 + 1 + 1) 0 2 (-1))) ?_ rfl ⟨⟨_, _, rfl, two_pm (Q3 _ _ _ _) (Q4 _ _ _ _)⟩, B _ _ _ _⟩
  have r0 := cell_of_row _ _ 0 _ _ _ (Q1 (.cells #[.slice (some ⟨w.heap.size + 1 + 1, 0, none⟩) 2 2, .slice (some ⟨w.heap.size + 1 + 1 + 1, 0, none⟩) 2 2, .int .i64 (-1)] 25 (0, 0)) (.cells #[.int .i64 20, .int .i64 24] 83 (0, 0)) (.cells #[.int .i64 0, .int .i64 0, .int .i64 20, .int .i64 24, .int .i64 4, .int .i64 1, .bool false, .int .i64 50, .int .i64 0, .int .i64 20, .int .i64 24, .int .i64 4, .int .i64 1, .bool false] 85 (0, 0)) (.cells #[.int .i64 a, .int .i64 0, .int .i64 n, .int .i64 b, .int .i64 0, .int .i64 n] 75 (0, 0)))
  have r1 := cell_of_row _ _ 1 _ _ _ (Q1 (.cells #[.slice (some ⟨w.heap.size + 1 + 1, 0, none⟩) 2 2, .slice (some ⟨w.heap.size + 1 + 1 + 1, 0, none⟩) 2 2, .int .i64 (-1)] 25 (0, 0)) (.cells #[.int .i64 20, .int .i64 24] 83 (0, 0)) (.cells #[.int .i64 0, .int .i64 0, .int .i64 20, .int .i64 24, .int .i64 4, .int .i64 1, .bool false, .int .i64 50, .int .i64 0, .int .i64 20, .int .i64 24, .int .i64 4, .int .i64 1, .bool false] 85 (0, 0)) (.cells #[.int .i64 a, .int .i64 0, .int .i64 n, .int .i64 b, .int .i64 0, .int .i64 n] 75 (0, 0)))
  have r2 := cell_of_row _ _ 2 _ _ _ (Q1 (.cells #[.slice (some ⟨w.heap.size + 1 + 1, 0, none⟩) 2 2, .slice (some ⟨w.heap.size + 1 + 1 + 1, 0, none⟩) 2 2, .int .i64 (-1)] 25 (0, 0)) (.cells #[.int .i64 20, .int .i64 24] 83 (0, 0)) (.cells #[.int .i64 0, .int .i64 0, .int .i64 20, .int .i64 24, .int .i64 4, .int .i64 1, .bool false, .int .i64 50, .int .i64 0, .int .i64 20, .int .i64 24, .int .i64 4, .int .i64 1, .bool false] 85 (0, 0)) (.cells #[.int .i64 a, .int .i64 0, .int .i64 n, .int .i64 b, .int .i64 0, .int .i64 n] 75 (0, 0)))
  simp at r0 r1 r2
  simp [results, Tryz.f39, go_sem, r0, r1, r2, tkv]
end Go.Proofs.YtdknneofiefieaaGreatDoor
