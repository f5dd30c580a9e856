import Derived.Test.YtdknneofiefieaaGreatDoorGx
import Derived.Test.YtdknneofiefieaaGreatDoorGp
import Derived.Test.YtdknneofiefieaaGreatDoorGd

namespace Go.Proofs.YtdknneofiefieaaGreatDoor
open Go.RowKit Go.Lib Sh

set_option maxRecDepth 100000 in
set_option maxHeartbeats 1000000 in
theorem rin_c (n : Int) (w : World) : Calls Tryz.prog 145 #[.int .i64 n] w (RB (.bool (inb n)) w) := by
  unfold inb
  by_cases h1 : -100000 ≤ n
  · by_cases h2 : n ≤ 100000
    · rw [decide_eq_true h1, decide_eq_true h2]
      go_enter Tryz.func145, Tryz.ntmps145
      go_wp2
      go_ret
      exact ⟨rfl, Below.refl _ _⟩
    · rw [decide_eq_true h1, decide_eq_false h2]
      go_enter Tryz.func145, Tryz.ntmps145
      go_wp2
      go_ret
      exact ⟨rfl, Below.refl _ _⟩
  · rw [decide_eq_false h1]
    go_enter Tryz.func145, Tryz.ntmps145
    go_wp2
    go_ret
    exact ⟨rfl, Below.refl _ _⟩
set_option maxRecDepth 100000 in
set_option maxHeartbeats 1000000 in
theorem rsize_c (n : Int) (w : World) : Calls Tryz.prog 112 #[.int .i64 n] w (RB (.bool (szb n)) w) := by
  unfold szb
  by_cases h1 : 1 ≤ n
  · by_cases h2 : n ≤ 100000
    · rw [decide_eq_true h1, decide_eq_true h2]
      go_enter Tryz.func112, Tryz.ntmps112
      go_wp2
      go_ret
      exact ⟨rfl, Below.refl _ _⟩
    · rw [decide_eq_true h1, decide_eq_false h2]
      go_enter Tryz.func112, Tryz.ntmps112
      go_wp2
      go_ret
      exact ⟨rfl, Below.refl _ _⟩
  · rw [decide_eq_false h1]
    go_enter Tryz.func112, Tryz.ntmps112
    go_wp2
    go_ret
    exact ⟨rfl, Below.refl _ _⟩
set_option maxRecDepth 100000 in
set_option maxHeartbeats 1000000 in
theorem rright_c (x y : Int) (w : World) : Calls Tryz.prog 111 #[.agg #[.int .i64 x, .int .i64 y]] w (RB (.bool (inb x && inb y)) w) := by
  obtain ⟨W, hW⟩ : ∃ W, w.alloc (.cells #[.int .i64 x, .int .i64 y] 73) = W := ⟨_, rfl⟩
  have q1 : W.heap[w.heap.size]? = some (.cells #[.int .i64 x, .int .i64 y] 73 (0, 0)) := hW ▸ heap_alloc_new w _
  have bW : Below w.heap.size w W := hW ▸ (Below.refl _ w).alloc (Nat.le_refl _) _
  have a0 : W.cell? ⟨w.heap.size, 0, none⟩ = some (.int .i64 x) := cell_of_row W _ 0 _ _ _ q1
  have R := fun n w => rin_c n w
  cases hx : inb x with
  | false =>
    have R1 := R x W
    rw [hx] at R1
    clear R
    go_enter Tryz.func111, Tryz.ntmps111
    go_wp2_with fail
    clear hW
    refine R1.mono ?_
    rintro e w1 ⟨rfl, b1⟩
    go_wp2_with fail
    go_ret
    exact ⟨rfl, Bl.trans bW b1⟩
  | true =>
    have R1 := R x W
    rw [hx] at R1
    go_enter Tryz.func111, Tryz.ntmps111
    go_wp2_with fail
    clear hW
    refine R1.mono ?_
    rintro e w1 ⟨rfl, b1⟩
    have B1 := Bl.trans bW b1
    have a1 : w1.cell? ⟨w.heap.size, 1, none⟩ = some (.int .i64 y) := cell_of_row w1 _ 1 _ _ _ (blk_below q1 b1)
    have R2 := R y w1
    clear R a0
    go_wp2_with fail
    refine R2.mono ?_
    rintro e w2 ⟨rfl, b2⟩
    go_wp2_with fail
    go_ret
    exact ⟨rfl, Bl.trans B1 b2⟩
set_option maxRecDepth 100000 in
set_option maxHeartbeats 1000000 in
theorem rring_c (c : Ci) (w : World) : Calls Tryz.prog 75 #[.agg (ccells c)] w (RB (.int .i64 (rchk c)) w) := by
  obtain ⟨x, y, n⟩ := c
  unfold ccells
  obtain ⟨W, hW⟩ : ∃ W, w.alloc (.cells #[.int .i64 x, .int .i64 y, .int .i64 n] 75) = W := ⟨_, rfl⟩
  have q1 : W.heap[w.heap.size]? = some (.cells #[.int .i64 x, .int .i64 y, .int .i64 n] 75 (0, 0)) := hW ▸ heap_alloc_new w _
  have bW : Below w.heap.size w W := hW ▸ (Below.refl _ w).alloc (Nat.le_refl _) _
  have a0 : W.cell? ⟨w.heap.size, 0, none⟩ = some (.int .i64 x) := cell_of_row W _ 0 _ _ _ q1
  have a1 : W.cell? ⟨w.heap.size, 1, none⟩ = some (.int .i64 y) := cell_of_row W _ 1 _ _ _ q1
  have R1 := rright_c x y W
  have R2 := fun w => rsize_c n w
  cases hx : inb x && inb y with
  | false =>
    rw [hx] at R1
    have E : rchk ⟨x, y, n⟩ = 2 := by
      unfold rchk
      rw [if_neg]
      rintro ⟨h1, h2, _⟩
      simp only at h1 h2
      rw [h1, h2] at hx; cases hx
    rw [E]
    go_enter Tryz.func75, Tryz.ntmps75
    go_wp2_with fail
    clear hW
    refine R1.mono ?_
    rintro e w1 ⟨rfl, b1⟩
    go_wp2_with fail
    go_ret
    exact ⟨rfl, Bl.trans bW b1⟩
  | true =>
    rw [hx] at R1
    obtain ⟨h1, h2⟩ := (Bool.and_eq_true _ _).mp hx
    cases hn : szb n with
    | false =>
      have E : rchk ⟨x, y, n⟩ = 2 := by
        unfold rchk
        rw [if_neg]
        rintro ⟨_, _, h3⟩
        simp only at h3
        rw [h3] at hn; cases hn
      rw [E]
      go_enter Tryz.func75, Tryz.ntmps75
      go_wp2_with fail
      clear hW
      refine R1.mono ?_
      rintro e w1 ⟨rfl, b1⟩
      have a2 : w1.cell? ⟨w.heap.size, 2, none⟩ = some (.int .i64 n) := cell_of_row w1 _ 2 _ _ _ (blk_below q1 b1)
      have R3 := R2 w1
      rw [hn] at R3
      clear R2 a0 a1
      go_wp2_with fail
      refine R3.mono ?_
      rintro e w2 ⟨rfl, b2⟩
      go_wp2_with fail
      go_ret
      exact ⟨rfl, Bl.trans bW (Bl.trans b1 b2)⟩
    | true =>
      have E : rchk ⟨x, y, n⟩ = 0 := by
        unfold rchk
        rw [if_pos ⟨h1, h2, hn⟩]
      rw [E]
      go_enter Tryz.func75, Tryz.ntmps75
      go_wp2_with fail
      clear hW
      refine R1.mono ?_
      rintro e w1 ⟨rfl, b1⟩
      have a2 : w1.cell? ⟨w.heap.size, 2, none⟩ = some (.int .i64 n) := cell_of_row w1 _ 2 _ _ _ (blk_below q1 b1)
      have R3 := R2 w1
      rw [hn] at R3
      clear R2 a0 a1
      go_wp2_with fail
      refine R3.mono ?_
      rintro e w2 ⟨rfl, b2⟩
      go_wp2_with fail
      go_ret
      exact ⟨rfl, Bl.trans bW (Bl.trans b1 b2)⟩
end Go.Proofs.YtdknneofiefieaaGreatDoor
