import Derived.Deep.RegionHeld3
import Derived.Test.YtdknneofiefieaaGreatDoorGn
import Derived.Test.YtdknneofiefieaaGreatDoorGm
import Derived.Test.YtdknneofiefieaaGreatDoorGc
import Derived.Test.YtdknneofiefieaaGreatDoorGp
import Derived.Test.YtdknneofiefieaaGreatDoorGo

namespace Go.Proofs.YtdknneofiefieaaGreatDoor
open Go.RowKit Go.Lib Dec Wd Rt Geo

theorem pair_cells'' {α : Type} (w : World) (t : TypeId) (f : α → Value) (l : List α) : ∀ j z, l[j]? = some z → (w.alloc (.cells (l.map f).toArray t (0, 0))).cell? ⟨w.heap.size, j, none⟩ = some (f z) := list_cells w t f l

set_option maxRecDepth 100000 in
set_option maxHeartbeats 1000000 in
theorem Make_c {num den : Int} (h1 : Sz num) (h2 : Sz den) (h0 : den ≠ 0) (w : World) (g : Gd w) :
    Calls Tryz.prog 144 #[.string (tx num), .string (tx den)] w fun e w' => e = .returned (.tuple #[.string (rt (Rat.divInt num den)), .int .i64 0]) ∧ Below w.heap.size w w' := by
  have K : ∀ n ∈ [num, den], ∀ w, Calls Tryz.prog 77 #[.string (tx n)] w fun e w' => e = .returned (.int .i64 0) ∧ Below w.heap.size w w' := by
    intro n hn
    rcases List.mem_cons.1 hn with rfl | hn
    · exact check_tx h1
    · rw [List.mem_singleton] at hn; subst hn; exact check_tx h2
  have hz : ((tx den).toList == [48]) = false := by rw [tx_zero]; simpa using h0
  have HL := fun w0 p w h => lowest_c h1 h2 h0 w0 p w h
  clear h1 h2 h0
  generalize rt (Rat.divInt num den) = res at *
  go_enter Tryz.func144, Tryz.ntmps144
  have LC := list_cells w 96 (fun z => .string (tx z)) [num, den]
  have hB0 := pair_below w (.cells ([num, den].map fun z => .string (tx z)).toArray 96 (0, 0))
  simp only [List.map_cons, List.map_nil] at LC hB0
  go_wp2_with fail
  go_loopg [7, 8, 15] 2 (fun m _ _ i wr => ∃ k : Nat, k + m = 2 ∧ i = .int .i64 k ∧ Below (w.heap.size + 1) (w.alloc (.cells #[.string (tx num), .string (tx den)] 96 (0, 0))) wr)
  case atStart => exact ⟨0, by omega, rfl, Below.refl _ _⟩
  case round =>
    obtain ⟨k, hm, rfl, hB⟩ := hrel
    by_cases hlt : k < 2
    · obtain ⟨x, hx⟩ : ∃ x, [num, den][k]? = some x := ⟨_, List.getElem?_eq_getElem hlt⟩
      have hcell : wr.cell? ⟨w.heap.size, k, none⟩ = some (.string (tx x)) := (hB.cell (p := ⟨w.heap.size, k, none⟩) (by simp)).trans (LC k x hx)
      have KK := K x (List.mem_of_getElem? hx) wr
      have HM := Lib.hid hm
      clear K hx hm LC
      generalize tx x = tX at *
      go_wp2_with (go_at_call 77; refine KK.mono ?_; rintro e w1 ⟨rfl, b1⟩)
      go_roundg (gk - 1)
      case measure => have := HM.out; omega
      case rel => exact ⟨k + 1, by have := HM.out; omega, by go_num, hB.trans (b1.mono (by simpa using hB.size))⟩
    · have hk : k = 2 := by omega
      subst hk
      clear K LC
      have BB : Below w.heap.size w wr := Bl.trans hB0 (by simpa using hB)
      have hS := St.new w wr g BB
      have L := HL w _ _ hS
      go_wp2_with fail
      refine L.mono ?_
      rintro e w5 ⟨rfl, s5, c5⟩
      have d5 := s5.cell
      go_wp2_with fail
      go_ret2
      exact ⟨rfl, s5.b⟩

set_option maxRecDepth 100000 in
set_option maxHeartbeats 1000000 in
theorem rOf_c {num den : Int} (h1 : num.natAbs ≤ 1000000000000) (h2 : den.natAbs ≤ 1000000000000) (h0 : den ≠ 0) (w : World) (g : Gd w) :
    Calls Tryz.prog 105 #[.int .i64 num, .int .i64 den] w fun e w' => e = .returned (.tuple #[.string (rt (Rat.divInt num den)), .int .i64 0]) ∧ Below w.heap.size w w' := by
  have K1 := fun w g => Of_c num (by omega) (by omega) w g
  have K2 := fun w g => Of_c den (by omega) (by omega) w g
  have H := fun w g => Make_c (num := num) (den := den) (sz_le (N := 12) h1 (by omega)) (sz_le (N := 12) h2 (by omega)) h0 w g
  clear h1 h2 h0
  generalize rt (Rat.divInt num den) = res at *
  go_enter Tryz.func105, Tryz.ntmps105
  go_wp2_with fail
  refine (K1 _ g).mono ?_
  rintro e w1 ⟨rfl, b1⟩
  go_wp2_with fail
  refine (K2 _ (g.below b1)).mono ?_
  rintro e w2 ⟨rfl, b2⟩
  go_wp2_with fail
  refine (H _ (g.below (Bl.trans b1 b2))).mono ?_
  rintro e w3 ⟨rfl, b3⟩
  go_wp2_with fail
  go_ret2
  exact ⟨rfl, Bl.trans (Bl.trans b1 b2) b3⟩

theorem rt_int (n : Int) : rt (n : Rat) = tx n := by
  rw [rt_one (by exact Rat.den_intCast n), Rat.num_intCast]
set_option maxRecDepth 100000 in
set_option maxHeartbeats 1000000 in
theorem rWhole_c (n : Int) (h1 : n.natAbs ≤ 1000000000000) (w : World) (g : Gd w) :
    Calls Tryz.prog 106 #[.int .i64 n] w fun e w' => e = .returned (.string (rt (n : Rat))) ∧ Below w.heap.size w w' := by
  have K1 := fun w g => Of_c n (by omega) (by omega) w g
  rw [rt_int]
  clear h1
  go_enter Tryz.func106, Tryz.ntmps106
  go_wp2_with fail
  refine (K1 _ g).mono ?_
  rintro e w1 ⟨rfl, b1⟩
  go_wp2_with fail
  go_ret
  exact ⟨rfl, b1⟩
end Go.Proofs.YtdknneofiefieaaGreatDoor

namespace Go.Proofs.YtdknneofiefieaaGreatDoor
open Go.RowKit Go.Lib Sh

def tcells (t : Tg) : Array Value := #[.int .i64 t.x, .int .i64 t.y, .int .i64 t.lo, .int .i64 t.hi, .int .i64 t.tol, .int .i64 t.mat, .bool t.pin]
def ccells (c : Ci) : Array Value := #[.int .i64 c.x, .int .i64 c.y, .int .i64 c.n]

set_option maxRecDepth 100000 in
set_option maxHeartbeats 1000000 in
theorem bCheck_c {t : Tg} (h : Tok t) (w : World) :
    Calls Tryz.prog 72 #[.agg (tcells t)] w fun e w' => e = .returned (.int .i64 0) ∧ Below w.heap.size w w' := by
  obtain ⟨x, y, lo, hi, tol, mat, pin⟩ := t
  obtain ⟨x1, x2, y1, y2, l1, l2, h1, h2, le, t1, t2, hp, m1, m2⟩ := h
  simp only at *
  unfold tcells
  cases pin with
  | true =>
    go_enter Tryz.func72, Tryz.ntmps72
    go_wp2
    go_ret
    exact ⟨rfl, (Below.refl _ w).alloc (Nat.le_refl _) _⟩
  | false =>
    have hp := hp.resolve_left (by decide)
    go_enter Tryz.func72, Tryz.ntmps72
    go_wp2
    go_ret
    exact ⟨rfl, (Below.refl _ w).alloc (Nat.le_refl _) _⟩
set_option maxRecDepth 100000 in
set_option maxHeartbeats 1000000 in
theorem bring_c {c : Ci} (h : Cok c) (w : World) :
    Calls Tryz.prog 73 #[.agg (ccells c)] w fun e w' => e = .returned (.int .i64 0) ∧ Below w.heap.size w w' := by
  obtain ⟨x, y, n⟩ := c
  obtain ⟨x1, x2, y1, y2, n1, n2⟩ := h
  simp only at *
  unfold ccells
  go_enter Tryz.func73, Tryz.ntmps73
  go_wp2
  go_ret
  exact ⟨rfl, (Below.refl _ w).alloc (Nat.le_refl _) _⟩
end Go.Proofs.YtdknneofiefieaaGreatDoor

namespace Go.Proofs.YtdknneofiefieaaGreatDoor
open Go.RowKit Go.Lib Sh

theorem signs_cell {w : World} (g : Gd w) (o : Nat) : w.cell? ⟨0, o, none⟩ = (#[Value.int .i64 (-1), .int .i64 (-1), .int .i64 1, .int .i64 1, .int .i64 1, .int .i64 (-1)])[o]? := by
  have h := g.signs
  unfold World.var? at h
  have e : Tryz.prog.globalNamed "metrolab/bonus.signs" = some 0 := by kernel_rfl
  rw [e] at h
  simp only [Option.bind_some] at h
  unfold World.cell?
  cases hh : w.heap[0]? with
  | none => rw [hh] at h; cases h
  | some ob =>
    rw [hh] at h
    cases ob with
    | cells cs t fr => simp at h; subst h; rfl
    | _ => simp at h

/-- the side of the virtual size -/
def sideOf (t : Tg) : Int := if t.pin then (if t.mat = 2 then -1 else 1) else (if t.mat = 2 then 1 else -1)

set_option maxRecDepth 100000 in
set_option maxHeartbeats 1000000 in
theorem bof_c {x y lo hi tol mat : Int} {pin : Bool} {sd : Int} (h1 : 0 ≤ mat) (h2 : mat ≤ 2) (hsd : sideOf ⟨x, y, lo, hi, tol, mat, pin⟩ = sd) (w : World) (g : Gd w) :
    Calls Tryz.prog 101 #[.agg #[.int .i64 x, .int .i64 y, .int .i64 lo, .int .i64 hi, .int .i64 tol, .int .i64 mat, .bool pin]] w
      (RB (.agg #[.int .i64 x, .int .i64 y, .int .i64 lo, .int .i64 hi, .int .i64 tol, .int .i64 mat, .bool pin, .int .i64 sd]) w) := by
  have hmat : mat = 0 ∨ mat = 1 ∨ mat = 2 := by omega
  obtain ⟨W, hW⟩ : ∃ W, (w.alloc (.cells #[.int .i64 x, .int .i64 y, .int .i64 lo, .int .i64 hi, .int .i64 tol, .int .i64 mat, .bool pin] 85)).alloc (.cells #[.int .i64 0, .int .i64 0, .int .i64 0, .int .i64 0, .int .i64 0, .int .i64 0, .bool false, .int .i64 0] 163) = W := ⟨_, rfl⟩
  have q1 : W.heap[w.heap.size]? = some (.cells #[.int .i64 x, .int .i64 y, .int .i64 lo, .int .i64 hi, .int .i64 tol, .int .i64 mat, .bool pin] 85 (0, 0)) := hW ▸ (Below.heap_alloc _ _ _ (by simp)).trans (heap_alloc_new w _)
  have q2 : W.heap[w.heap.size + 1]? = some (.cells #[.int .i64 0, .int .i64 0, .int .i64 0, .int .i64 0, .int .i64 0, .int .i64 0, .bool false, .int .i64 0] 163 (0, 0)) := by
    have := heap_alloc_new (w.alloc (.cells #[.int .i64 x, .int .i64 y, .int .i64 lo, .int .i64 hi, .int .i64 tol, .int .i64 mat, .bool pin] 85 (0, 0))) (.cells #[.int .i64 0, .int .i64 0, .int .i64 0, .int .i64 0, .int .i64 0, .int .i64 0, .bool false, .int .i64 0] 163 (0, 0))
    rw [World.size_alloc] at this
    rw [← hW]; exact this
  have bW : Below w.heap.size w W := hW ▸ ((Below.refl _ w).alloc (Nat.le_refl _) _).alloc (by simp) _
  have gW := g.below bW
  have a0 := cell_of_row W _ 0 _ _ _ q1
  have a1 := cell_of_row W _ 1 _ _ _ q1
  have a2 := cell_of_row W _ 2 _ _ _ q1
  have a3 := cell_of_row W _ 3 _ _ _ q1
  have a4 := cell_of_row W _ 4 _ _ _ q1
  have a5 := cell_of_row W _ 5 _ _ _ q1
  have a6 := cell_of_row W _ 6 _ _ _ q1
  have r0 := cell_of_row W _ 0 _ _ _ q2
  have r1 := cell_of_row W _ 1 _ _ _ q2
  have r2 := cell_of_row W _ 2 _ _ _ q2
  have r3 := cell_of_row W _ 3 _ _ _ q2
  have r4 := cell_of_row W _ 4 _ _ _ q2
  have r5 := cell_of_row W _ 5 _ _ _ q2
  have r6 := cell_of_row W _ 6 _ _ _ q2
  have r7 := cell_of_row W _ 7 _ _ _ q2
  simp at a0 a1 a2 a3 a4 a5 a6 r0 r1 r2 r3 r4 r5 r6 r7
  have f0 : ∀ o, W.frozen? ⟨w.heap.size + 1, o, none⟩ = false := fun o => by unfold World.frozen?; simp [q2]
  have k0 := f0 0
  have k1 := f0 1
  have k2 := f0 2
  have k3 := f0 3
  have k4 := f0 4
  have k5 := f0 5
  have k6 := f0 6
  have k7 := f0 7
  clear f0 q1 q2
  unfold sideOf at hsd
  cases pin
  all_goals rcases hmat with rfl | rfl | rfl
  all_goals simp at hsd
  all_goals subst hsd
  · have sc : W.cell? ⟨0, 0, none⟩ = some (.int .i64 (-1)) := signs_cell gW 0
    go_enter Tryz.func101, Tryz.ntmps101
    go_wp2_with fail
    clear hW
    go_region_held3 (fun m => m.cell? ⟨w.heap.size, 0, none⟩ = some (.int .i64 x) ∧ m.cell? ⟨w.heap.size, 1, none⟩ = some (.int .i64 y) ∧ m.cell? ⟨w.heap.size, 2, none⟩ = some (.int .i64 lo) ∧ m.cell? ⟨w.heap.size, 3, none⟩ = some (.int .i64 hi) ∧ m.cell? ⟨w.heap.size, 4, none⟩ = some (.int .i64 tol) ∧ m.cell? ⟨w.heap.size, 5, none⟩ = some (.int .i64 0) ∧ m.cell? ⟨w.heap.size, 6, none⟩ = some (.bool false) ∧ m.cell? ⟨0, 0, none⟩ = some (.int .i64 (-1))) (go_keep) (fail)
    go_wp2_with fail
    try simp only [Exit.then]
    refine bodyPost_ret (v := .agg #[.int .i64 x, .int .i64 y, .int .i64 lo, .int .i64 hi, .int .i64 tol, .int .i64 0, .bool false, .int .i64 (-1)]) ?_ rfl ⟨rfl, Below.drew ((((((((bW.setCell (p := ⟨w.heap.size + 1, 0, none⟩) (by simp) _).setCell (p := ⟨w.heap.size + 1, 1, none⟩) (by simp) _).setCell (p := ⟨w.heap.size + 1, 2, none⟩) (by simp) _).setCell (p := ⟨w.heap.size + 1, 3, none⟩) (by simp) _).setCell (p := ⟨w.heap.size + 1, 4, none⟩) (by simp) _).setCell (p := ⟨w.heap.size + 1, 5, none⟩) (by simp) _).setCell (p := ⟨w.heap.size + 1, 6, none⟩) (by simp) _).setCell (p := ⟨w.heap.size + 1, 7, none⟩) (by simp) _)⟩
    simp [results, Tryz.f101, go_sem, r0, r1, r2, r3, r4, r5, r6, r7]
  · have sc : W.cell? ⟨0, 1, none⟩ = some (.int .i64 (-1)) := signs_cell gW 1
    go_enter Tryz.func101, Tryz.ntmps101
    go_wp2_with fail
    clear hW
    go_region_held3 (fun m => m.cell? ⟨w.heap.size, 0, none⟩ = some (.int .i64 x) ∧ m.cell? ⟨w.heap.size, 1, none⟩ = some (.int .i64 y) ∧ m.cell? ⟨w.heap.size, 2, none⟩ = some (.int .i64 lo) ∧ m.cell? ⟨w.heap.size, 3, none⟩ = some (.int .i64 hi) ∧ m.cell? ⟨w.heap.size, 4, none⟩ = some (.int .i64 tol) ∧ m.cell? ⟨w.heap.size, 5, none⟩ = some (.int .i64 1) ∧ m.cell? ⟨w.heap.size, 6, none⟩ = some (.bool false) ∧ m.cell? ⟨0, 1, none⟩ = some (.int .i64 (-1))) (go_keep) (fail)
    go_wp2_with fail
    try simp only [Exit.then]
    refine bodyPost_ret (v := .agg #[.int .i64 x, .int .i64 y, .int .i64 lo, .int .i64 hi, .int .i64 tol, .int .i64 1, .bool false, .int .i64 (-1)]) ?_ rfl ⟨rfl, Below.drew ((((((((bW.setCell (p := ⟨w.heap.size + 1, 0, none⟩) (by simp) _).setCell (p := ⟨w.heap.size + 1, 1, none⟩) (by simp) _).setCell (p := ⟨w.heap.size + 1, 2, none⟩) (by simp) _).setCell (p := ⟨w.heap.size + 1, 3, none⟩) (by simp) _).setCell (p := ⟨w.heap.size + 1, 4, none⟩) (by simp) _).setCell (p := ⟨w.heap.size + 1, 5, none⟩) (by simp) _).setCell (p := ⟨w.heap.size + 1, 6, none⟩) (by simp) _).setCell (p := ⟨w.heap.size + 1, 7, none⟩) (by simp) _)⟩
    simp [results, Tryz.f101, go_sem, r0, r1, r2, r3, r4, r5, r6, r7]
  · have sc : W.cell? ⟨0, 2, none⟩ = some (.int .i64 (1)) := signs_cell gW 2
    go_enter Tryz.func101, Tryz.ntmps101
    go_wp2_with fail
    clear hW
    go_region_held3 (fun m => m.cell? ⟨w.heap.size, 0, none⟩ = some (.int .i64 x) ∧ m.cell? ⟨w.heap.size, 1, none⟩ = some (.int .i64 y) ∧ m.cell? ⟨w.heap.size, 2, none⟩ = some (.int .i64 lo) ∧ m.cell? ⟨w.heap.size, 3, none⟩ = some (.int .i64 hi) ∧ m.cell? ⟨w.heap.size, 4, none⟩ = some (.int .i64 tol) ∧ m.cell? ⟨w.heap.size, 5, none⟩ = some (.int .i64 2) ∧ m.cell? ⟨w.heap.size, 6, none⟩ = some (.bool false) ∧ m.cell? ⟨0, 2, none⟩ = some (.int .i64 (1))) (go_keep) (fail)
    go_wp2_with fail
    try simp only [Exit.then]
    refine bodyPost_ret (v := .agg #[.int .i64 x, .int .i64 y, .int .i64 lo, .int .i64 hi, .int .i64 tol, .int .i64 2, .bool false, .int .i64 (1)]) ?_ rfl ⟨rfl, Below.drew ((((((((bW.setCell (p := ⟨w.heap.size + 1, 0, none⟩) (by simp) _).setCell (p := ⟨w.heap.size + 1, 1, none⟩) (by simp) _).setCell (p := ⟨w.heap.size + 1, 2, none⟩) (by simp) _).setCell (p := ⟨w.heap.size + 1, 3, none⟩) (by simp) _).setCell (p := ⟨w.heap.size + 1, 4, none⟩) (by simp) _).setCell (p := ⟨w.heap.size + 1, 5, none⟩) (by simp) _).setCell (p := ⟨w.heap.size + 1, 6, none⟩) (by simp) _).setCell (p := ⟨w.heap.size + 1, 7, none⟩) (by simp) _)⟩
    simp [results, Tryz.f101, go_sem, r0, r1, r2, r3, r4, r5, r6, r7]
  · have sc : W.cell? ⟨0, 3, none⟩ = some (.int .i64 (1)) := signs_cell gW 3
    go_enter Tryz.func101, Tryz.ntmps101
    go_wp2_with fail
    clear hW
    go_region_held3 (fun m => m.cell? ⟨w.heap.size, 0, none⟩ = some (.int .i64 x) ∧ m.cell? ⟨w.heap.size, 1, none⟩ = some (.int .i64 y) ∧ m.cell? ⟨w.heap.size, 2, none⟩ = some (.int .i64 lo) ∧ m.cell? ⟨w.heap.size, 3, none⟩ = some (.int .i64 hi) ∧ m.cell? ⟨w.heap.size, 4, none⟩ = some (.int .i64 tol) ∧ m.cell? ⟨w.heap.size, 5, none⟩ = some (.int .i64 0) ∧ m.cell? ⟨w.heap.size, 6, none⟩ = some (.bool true) ∧ m.cell? ⟨0, 3, none⟩ = some (.int .i64 (1))) (go_keep) (fail)
    go_wp2_with fail
    try simp only [Exit.then]
    refine bodyPost_ret (v := .agg #[.int .i64 x, .int .i64 y, .int .i64 lo, .int .i64 hi, .int .i64 tol, .int .i64 0, .bool true, .int .i64 (1)]) ?_ rfl ⟨rfl, Below.drew ((((((((bW.setCell (p := ⟨w.heap.size + 1, 0, none⟩) (by simp) _).setCell (p := ⟨w.heap.size + 1, 1, none⟩) (by simp) _).setCell (p := ⟨w.heap.size + 1, 2, none⟩) (by simp) _).setCell (p := ⟨w.heap.size + 1, 3, none⟩) (by simp) _).setCell (p := ⟨w.heap.size + 1, 4, none⟩) (by simp) _).setCell (p := ⟨w.heap.size + 1, 5, none⟩) (by simp) _).setCell (p := ⟨w.heap.size + 1, 6, none⟩) (by simp) _).setCell (p := ⟨w.heap.size + 1, 7, none⟩) (by simp) _)⟩
    simp [results, Tryz.f101, go_sem, r0, r1, r2, r3, r4, r5, r6, r7]
  · have sc : W.cell? ⟨0, 4, none⟩ = some (.int .i64 (1)) := signs_cell gW 4
    go_enter Tryz.func101, Tryz.ntmps101
    go_wp2_with fail
    clear hW
    go_region_held3 (fun m => m.cell? ⟨w.heap.size, 0, none⟩ = some (.int .i64 x) ∧ m.cell? ⟨w.heap.size, 1, none⟩ = some (.int .i64 y) ∧ m.cell? ⟨w.heap.size, 2, none⟩ = some (.int .i64 lo) ∧ m.cell? ⟨w.heap.size, 3, none⟩ = some (.int .i64 hi) ∧ m.cell? ⟨w.heap.size, 4, none⟩ = some (.int .i64 tol) ∧ m.cell? ⟨w.heap.size, 5, none⟩ = some (.int .i64 1) ∧ m.cell? ⟨w.heap.size, 6, none⟩ = some (.bool true) ∧ m.cell? ⟨0, 4, none⟩ = some (.int .i64 (1))) (go_keep) (fail)
    go_wp2_with fail
    try simp only [Exit.then]
    refine bodyPost_ret (v := .agg #[.int .i64 x, .int .i64 y, .int .i64 lo, .int .i64 hi, .int .i64 tol, .int .i64 1, .bool true, .int .i64 (1)]) ?_ rfl ⟨rfl, Below.drew ((((((((bW.setCell (p := ⟨w.heap.size + 1, 0, none⟩) (by simp) _).setCell (p := ⟨w.heap.size + 1, 1, none⟩) (by simp) _).setCell (p := ⟨w.heap.size + 1, 2, none⟩) (by simp) _).setCell (p := ⟨w.heap.size + 1, 3, none⟩) (by simp) _).setCell (p := ⟨w.heap.size + 1, 4, none⟩) (by simp) _).setCell (p := ⟨w.heap.size + 1, 5, none⟩) (by simp) _).setCell (p := ⟨w.heap.size + 1, 6, none⟩) (by simp) _).setCell (p := ⟨w.heap.size + 1, 7, none⟩) (by simp) _)⟩
    simp [results, Tryz.f101, go_sem, r0, r1, r2, r3, r4, r5, r6, r7]
  · have sc : W.cell? ⟨0, 5, none⟩ = some (.int .i64 (-1)) := signs_cell gW 5
    go_enter Tryz.func101, Tryz.ntmps101
    go_wp2_with fail
    clear hW
    go_region_held3 (fun m => m.cell? ⟨w.heap.size, 0, none⟩ = some (.int .i64 x) ∧ m.cell? ⟨w.heap.size, 1, none⟩ = some (.int .i64 y) ∧ m.cell? ⟨w.heap.size, 2, none⟩ = some (.int .i64 lo) ∧ m.cell? ⟨w.heap.size, 3, none⟩ = some (.int .i64 hi) ∧ m.cell? ⟨w.heap.size, 4, none⟩ = some (.int .i64 tol) ∧ m.cell? ⟨w.heap.size, 5, none⟩ = some (.int .i64 2) ∧ m.cell? ⟨w.heap.size, 6, none⟩ = some (.bool true) ∧ m.cell? ⟨0, 5, none⟩ = some (.int .i64 (-1))) (go_keep) (fail)
    go_wp2_with fail
    try simp only [Exit.then]
    refine bodyPost_ret (v := .agg #[.int .i64 x, .int .i64 y, .int .i64 lo, .int .i64 hi, .int .i64 tol, .int .i64 2, .bool true, .int .i64 (-1)]) ?_ rfl ⟨rfl, Below.drew ((((((((bW.setCell (p := ⟨w.heap.size + 1, 0, none⟩) (by simp) _).setCell (p := ⟨w.heap.size + 1, 1, none⟩) (by simp) _).setCell (p := ⟨w.heap.size + 1, 2, none⟩) (by simp) _).setCell (p := ⟨w.heap.size + 1, 3, none⟩) (by simp) _).setCell (p := ⟨w.heap.size + 1, 4, none⟩) (by simp) _).setCell (p := ⟨w.heap.size + 1, 5, none⟩) (by simp) _).setCell (p := ⟨w.heap.size + 1, 6, none⟩) (by simp) _).setCell (p := ⟨w.heap.size + 1, 7, none⟩) (by simp) _)⟩
    simp [results, Tryz.f101, go_sem, r0, r1, r2, r3, r4, r5, r6, r7]
end Go.Proofs.YtdknneofiefieaaGreatDoor

namespace Go.Proofs.YtdknneofiefieaaGreatDoor
open Go.RowKit Go.Lib Sh

set_option maxRecDepth 100000 in
set_option maxHeartbeats 1000000 in
theorem bend_c {px py plo phi ptol pmat psd : Int} {ppin : Bool} (h : psd = -1 ∨ psd = 1) (w : World) :
    Calls Tryz.prog 143 #[.agg #[.int .i64 px, .int .i64 py, .int .i64 plo, .int .i64 phi, .int .i64 ptol, .int .i64 pmat, .bool ppin, .int .i64 psd], .int .i64 psd] w (RB (.int .i64 (if psd < 0 then plo else phi)) w) := by
  rcases h with rfl | rfl
  all_goals
    go_enter Tryz.func143, Tryz.ntmps143
    go_wp2
    go_ret
    exact ⟨rfl, (Below.refl _ w).alloc (Nat.le_refl _) _⟩

set_option maxRecDepth 100000 in
set_option maxHeartbeats 1000000 in
theorem bextra_w {px py plo phi ptol pmat psd n e1 : Int} {ppin : Bool} (h : psd = -1 ∨ psd = 1) (hm : pmat ≠ 0) (w1 : IntKind.i64.wrap ((if psd < 0 then plo else phi) - n) = e1) {r : Int} (w2 : IntKind.i64.wrap (psd * e1) = r) (w : World) :
    Calls Tryz.prog 102 #[.agg #[.int .i64 px, .int .i64 py, .int .i64 plo, .int .i64 phi, .int .i64 ptol, .int .i64 pmat, .bool ppin, .int .i64 psd], .int .i64 n] w (RB (.int .i64 r) w) := by
  have E := fun w => bend_c (px := px) (py := py) (plo := plo) (phi := phi) (ptol := ptol) (pmat := pmat) (ppin := ppin) h w
  generalize (if psd < 0 then plo else phi) = v at *
  clear h
  obtain ⟨W, hW⟩ : ∃ W, w.alloc (.cells #[.int .i64 px, .int .i64 py, .int .i64 plo, .int .i64 phi, .int .i64 ptol, .int .i64 pmat, .bool ppin, .int .i64 psd] 163) = W := ⟨_, rfl⟩
  have q1 : W.heap[w.heap.size]? = some (.cells #[.int .i64 px, .int .i64 py, .int .i64 plo, .int .i64 phi, .int .i64 ptol, .int .i64 pmat, .bool ppin, .int .i64 psd] 163 (0, 0)) := hW ▸ heap_alloc_new w _
  have bW : Below w.heap.size w W := hW ▸ (Below.refl _ w).alloc (Nat.le_refl _) _
  have a0 := cell_of_row W _ 0 _ _ _ q1
  have a1 := cell_of_row W _ 1 _ _ _ q1
  have a2 := cell_of_row W _ 2 _ _ _ q1
  have a3 := cell_of_row W _ 3 _ _ _ q1
  have a4 := cell_of_row W _ 4 _ _ _ q1
  have a5 := cell_of_row W _ 5 _ _ _ q1
  have a6 := cell_of_row W _ 6 _ _ _ q1
  have a7 := cell_of_row W _ 7 _ _ _ q1
  simp at a0 a1 a2 a3 a4 a5 a6 a7
  go_enter Tryz.func102, Tryz.ntmps102
  go_wp2_with fail
  clear hW
  refine Reg.walk (by kernel_rfl) 9 (by kernel_rfl) (by decide) (by kernel_rfl) (fun _ => false) (fun _ => [(some 9, .pointer (some ⟨w.heap.size, 7, none⟩)), (some 10, .int .i64 psd), (some 11, .agg #[.int .i64 px, .int .i64 py, .int .i64 plo, .int .i64 phi, .int .i64 ptol, .int .i64 pmat, .bool ppin, .int .i64 psd]), (some 12, .pointer (some ⟨w.heap.size, 7, none⟩)), (some 13, .int .i64 psd), (some 14, .int .i64 v), (some 15, .int .i64 n), (some 16, .int .i64 e1), (some 17, .int .i64 r)])
    (fun _ => rfl) (fun _ _ _ => rfl) (fun _ _ _ h => by cases h) (fun _ _ _ => True) (fun _ _ _ _ _ _ => trivial)
    (fun x => x.heap[w.heap.size]? = some (.cells #[.int .i64 px, .int .i64 py, .int .i64 plo, .int .i64 phi, .int .i64 ptol, .int .i64 pmat, .bool ppin, .int .i64 psd] 163 (0, 0)) ∧ Below w.heap.size w x)
    (⟨q1, bW.drew⟩) ?_ ?_
  · intro i o hi ho Q' a w' hw hon hoff K hK
    match i, hi with
    | 0, _ =>
      obtain rfl := Option.some.inj ho
      clear ho
      have o2 : a.tmps[2]?.getD undef = .pointer (some ⟨w.heap.size, 0, none⟩) := hoff 2 (by kernel_rfl)
      clear hon hoff
      rw [if_pos (by rfl)]
      go_simp
      exact hK _ _ rfl hw (Below.refl _ _)
    | 1, _ =>
      obtain rfl := Option.some.inj ho
      clear ho
      have o9 : a.tmps[9]?.getD undef = .pointer (some ⟨w.heap.size, 7, none⟩) := (Option.some.inj (hon 0 _ _ (by kernel_rfl) (by decide) rfl rfl rfl)).symm
      clear hon hoff
      rw [if_pos (by rfl)]
      have hw2 := hw.1
      have b0 := cell_of_row w' _ 0 _ _ _ hw2
      have b1 := cell_of_row w' _ 1 _ _ _ hw2
      have b2 := cell_of_row w' _ 2 _ _ _ hw2
      have b3 := cell_of_row w' _ 3 _ _ _ hw2
      have b4 := cell_of_row w' _ 4 _ _ _ hw2
      have b5 := cell_of_row w' _ 5 _ _ _ hw2
      have b6 := cell_of_row w' _ 6 _ _ _ hw2
      have b7 := cell_of_row w' _ 7 _ _ _ hw2
      simp at b0 b1 b2 b3 b4 b5 b6 b7
      clear hw2
      go_simp
      exact hK _ _ rfl hw (Below.refl _ _)
    | 2, _ =>
      obtain rfl := Option.some.inj ho
      clear ho
      have o2 : a.tmps[2]?.getD undef = .pointer (some ⟨w.heap.size, 0, none⟩) := hoff 2 (by kernel_rfl)
      clear hon hoff
      rw [if_pos (by rfl)]
      have hw2 := hw.1
      have b0 := cell_of_row w' _ 0 _ _ _ hw2
      have b1 := cell_of_row w' _ 1 _ _ _ hw2
      have b2 := cell_of_row w' _ 2 _ _ _ hw2
      have b3 := cell_of_row w' _ 3 _ _ _ hw2
      have b4 := cell_of_row w' _ 4 _ _ _ hw2
      have b5 := cell_of_row w' _ 5 _ _ _ hw2
      have b6 := cell_of_row w' _ 6 _ _ _ hw2
      have b7 := cell_of_row w' _ 7 _ _ _ hw2
      simp at b0 b1 b2 b3 b4 b5 b6 b7
      clear hw2
      go_simp
      exact hK _ _ rfl hw (Below.refl _ _)
    | 3, _ =>
      obtain rfl := Option.some.inj ho
      clear ho
      have o2 : a.tmps[2]?.getD undef = .pointer (some ⟨w.heap.size, 0, none⟩) := hoff 2 (by kernel_rfl)
      clear hon hoff
      rw [if_pos (by rfl)]
      go_simp
      exact hK _ _ rfl hw (Below.refl _ _)
    | 4, _ =>
      obtain rfl := Option.some.inj ho
      clear ho
      have o12 : a.tmps[12]?.getD undef = .pointer (some ⟨w.heap.size, 7, none⟩) := (Option.some.inj (hon 3 _ _ (by kernel_rfl) (by decide) rfl rfl rfl)).symm
      clear hon hoff
      rw [if_pos (by rfl)]
      have hw2 := hw.1
      have b0 := cell_of_row w' _ 0 _ _ _ hw2
      have b1 := cell_of_row w' _ 1 _ _ _ hw2
      have b2 := cell_of_row w' _ 2 _ _ _ hw2
      have b3 := cell_of_row w' _ 3 _ _ _ hw2
      have b4 := cell_of_row w' _ 4 _ _ _ hw2
      have b5 := cell_of_row w' _ 5 _ _ _ hw2
      have b6 := cell_of_row w' _ 6 _ _ _ hw2
      have b7 := cell_of_row w' _ 7 _ _ _ hw2
      simp at b0 b1 b2 b3 b4 b5 b6 b7
      clear hw2
      go_simp
      exact hK _ _ rfl hw (Below.refl _ _)
    | 5, _ =>
      obtain rfl := Option.some.inj ho
      clear ho
      have o11 : a.tmps[11]?.getD undef = .agg #[.int .i64 px, .int .i64 py, .int .i64 plo, .int .i64 phi, .int .i64 ptol, .int .i64 pmat, .bool ppin, .int .i64 psd] := (Option.some.inj (hon 2 _ _ (by kernel_rfl) (by decide) rfl rfl rfl)).symm
      have o13 : a.tmps[13]?.getD undef = .int .i64 psd := (Option.some.inj (hon 4 _ _ (by kernel_rfl) (by decide) rfl rfl rfl)).symm
      clear hon hoff
      rw [if_pos (by rfl)]
      go_simp
      refine (E _).mono ?_
      rintro e v1 ⟨rfl, b1⟩
      exact hK _ _ rfl ⟨blk_below hw.1 b1, Bl.trans hw.2 b1⟩ b1
    | 6, _ =>
      obtain rfl := Option.some.inj ho
      clear ho
      have o1 : a.tmps[1]?.getD undef = .int .i64 n := hoff 1 (by kernel_rfl)
      clear hon hoff
      rw [if_pos (by rfl)]
      go_simp
      exact hK _ _ rfl hw (Below.refl _ _)
    | 7, _ =>
      obtain rfl := Option.some.inj ho
      clear ho
      have o14 : a.tmps[14]?.getD undef = .int .i64 v := (Option.some.inj (hon 5 _ _ (by kernel_rfl) (by decide) rfl rfl rfl)).symm
      have o15 : a.tmps[15]?.getD undef = .int .i64 n := (Option.some.inj (hon 6 _ _ (by kernel_rfl) (by decide) rfl rfl rfl)).symm
      clear hon hoff
      rw [if_pos (by rfl)]
      go_simp
      exact hK _ _ rfl hw (Below.refl _ _)
    | 8, _ =>
      obtain rfl := Option.some.inj ho
      clear ho
      have o10 : a.tmps[10]?.getD undef = .int .i64 psd := (Option.some.inj (hon 1 _ _ (by kernel_rfl) (by decide) rfl rfl rfl)).symm
      have o16 : a.tmps[16]?.getD undef = .int .i64 e1 := (Option.some.inj (hon 7 _ _ (by kernel_rfl) (by decide) rfl rfl rfl)).symm
      clear hon hoff
      rw [if_pos (by rfl)]
      go_simp
      exact hK _ _ rfl hw (Below.refl _ _)
    | i + 9, h => exact absurd h (by omega)
  · intro g w' hw _ _
    simp only [List.drop_succ_cons, List.drop_zero, Reg.puts, Act.put, List.setIfInBounds_toArray, List.set_cons_succ, List.set_cons_zero]
    go_wp2_with fail
    go_ret
    exact ⟨rfl, hw.2⟩

set_option maxRecDepth 100000 in
set_option maxHeartbeats 1000000 in
theorem bextra_0 {x y lo hi tol sd n : Int} {pin : Bool} (w : World) :
    Calls Tryz.prog 102 #[.agg #[.int .i64 x, .int .i64 y, .int .i64 lo, .int .i64 hi, .int .i64 tol, .int .i64 0, .bool pin, .int .i64 sd], .int .i64 n] w (RB (.int .i64 0) w) := by
  go_enter Tryz.func102, Tryz.ntmps102
  go_wp2
  go_ret
  exact ⟨rfl, (Below.refl _ w).alloc (Nat.le_refl _) _⟩

set_option maxRecDepth 100000 in
theorem bextra_c {t : Tg} {c : Ci} (h : Tok t) (k : Win t c) (w : World) :
    Calls Tryz.prog 102 #[.agg #[.int .i64 t.x, .int .i64 t.y, .int .i64 t.lo, .int .i64 t.hi, .int .i64 t.tol, .int .i64 t.mat, .bool t.pin, .int .i64 (sideOf t)], .int .i64 c.n] w
      (RB (.int .i64 (extra t c.n)) w) := by
  obtain ⟨x, y, lo, hi, tol, mat, pin⟩ := t
  obtain ⟨cx, cy, n⟩ := c
  obtain ⟨_, _, _, _, l1, l2, l3, l4, l5, _, _, _, m1, m2⟩ := h
  obtain ⟨k1, k2⟩ := k
  simp only at *
  by_cases hm : mat = 0
  · subst hm
    have e : extra ⟨x, y, lo, hi, tol, 0, pin⟩ n = 0 := by unfold extra; simp
    rw [e]
    exact bextra_0 w
  · have hmat : mat = 1 ∨ mat = 2 := by omega
    have hs : sideOf ⟨x, y, lo, hi, tol, mat, pin⟩ = -1 ∨ sideOf ⟨x, y, lo, hi, tol, mat, pin⟩ = 1 := by
      unfold sideOf; simp only; split <;> split <;> simp
    have e1 : IntKind.i64.wrap ((if sideOf ⟨x, y, lo, hi, tol, mat, pin⟩ < 0 then lo else hi) - n) = (if sideOf ⟨x, y, lo, hi, tol, mat, pin⟩ < 0 then lo else hi) - n := by
      refine IntWalk.i64_in _ ?_
      split <;> omega
    have e2 : sideOf ⟨x, y, lo, hi, tol, mat, pin⟩ * ((if sideOf ⟨x, y, lo, hi, tol, mat, pin⟩ < 0 then lo else hi) - n) = extra ⟨x, y, lo, hi, tol, mat, pin⟩ n := by
      unfold sideOf extra
      cases pin <;> rcases hmat with rfl | rfl <;> simp <;> omega
    have e3 : IntKind.i64.wrap (sideOf ⟨x, y, lo, hi, tol, mat, pin⟩ * ((if sideOf ⟨x, y, lo, hi, tol, mat, pin⟩ < 0 then lo else hi) - n)) = extra ⟨x, y, lo, hi, tol, mat, pin⟩ n := by
      rw [e2]
      refine IntWalk.i64_in _ ?_
      unfold extra
      split
      · omega
      · split <;> split <;> simp only <;> omega
    exact bextra_w hs hm e1 e3 w
end Go.Proofs.YtdknneofiefieaaGreatDoor
