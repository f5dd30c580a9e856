import Derived.Test.YtdknneofiefieaaGreatDoorRfA

namespace Go.Proofs.YtdknneofiefieaaGreatDoor
open Go.RowKit Go.Lib Sh

set_option maxRecDepth 100000 in
set_option maxHeartbeats 1000000 in
theorem rt_k1 {x y lo hi tol mat : Int} {pin : Bool}  (w : World)
    (R1 : ∀ w, Calls Tryz.prog 111 #[.agg #[.int .i64 x, .int .i64 y]] w (RB (.bool false) w)) :
    Calls Tryz.prog 74 #[.agg #[.int .i64 x, .int .i64 y, .int .i64 lo, .int .i64 hi, .int .i64 tol, .int .i64 mat, .bool pin]] w (RB (.int .i64 2) w) := by
  obtain ⟨W, hW⟩ : ∃ W, w.alloc (.cells #[.int .i64 x, .int .i64 y, .int .i64 lo, .int .i64 hi, .int .i64 tol, .int .i64 mat, .bool pin] 85) = W := ⟨_, rfl⟩
  have q1 : W.heap[w.heap.size]? = some (.cells #[.int .i64 x, .int .i64 y, .int .i64 lo, .int .i64 hi, .int .i64 tol, .int .i64 mat, .bool pin] 85 (0, 0)) := hW ▸ heap_alloc_new w _
  have bW : Below w.heap.size w W := hW ▸ (Below.refl _ w).alloc (Nat.le_refl _) _
  have a0 : W.cell? ⟨w.heap.size, 0, none⟩ = some (.int .i64 x) := cell_of_row W _ 0 _ _ _ q1
  have a1 : W.cell? ⟨w.heap.size, 1, none⟩ = some (.int .i64 y) := cell_of_row W _ 1 _ _ _ q1
  have R1 := R1 W
  go_enter Tryz.func74, Tryz.ntmps74
  go_wp2_with fail
  clear hW
  refine R1.mono ?_
  rintro e w1 ⟨rfl, b1⟩
  clear a0 a1
  have q2 := blk_below q1 b1
  have B1 := Bl.trans bW b1
  go_wp2_with fail
  go_ret
  exact ⟨rfl, B1⟩
set_option maxRecDepth 100000 in
set_option maxHeartbeats 1000000 in
theorem rt_k2 {x y lo hi tol mat : Int} {pin : Bool}  (w : World)
    (R1 : ∀ w, Calls Tryz.prog 111 #[.agg #[.int .i64 x, .int .i64 y]] w (RB (.bool true) w))
    (R2 : ∀ w, Calls Tryz.prog 112 #[.int .i64 lo] w (RB (.bool false) w)) :
    Calls Tryz.prog 74 #[.agg #[.int .i64 x, .int .i64 y, .int .i64 lo, .int .i64 hi, .int .i64 tol, .int .i64 mat, .bool pin]] w (RB (.int .i64 2) w) := by
  obtain ⟨W, hW⟩ : ∃ W, w.alloc (.cells #[.int .i64 x, .int .i64 y, .int .i64 lo, .int .i64 hi, .int .i64 tol, .int .i64 mat, .bool pin] 85) = W := ⟨_, rfl⟩
  have q1 : W.heap[w.heap.size]? = some (.cells #[.int .i64 x, .int .i64 y, .int .i64 lo, .int .i64 hi, .int .i64 tol, .int .i64 mat, .bool pin] 85 (0, 0)) := hW ▸ heap_alloc_new w _
  have bW : Below w.heap.size w W := hW ▸ (Below.refl _ w).alloc (Nat.le_refl _) _
  have a0 : W.cell? ⟨w.heap.size, 0, none⟩ = some (.int .i64 x) := cell_of_row W _ 0 _ _ _ q1
  have a1 : W.cell? ⟨w.heap.size, 1, none⟩ = some (.int .i64 y) := cell_of_row W _ 1 _ _ _ q1
  have R1 := R1 W
  go_enter Tryz.func74, Tryz.ntmps74
  go_wp2_with fail
  clear hW
  refine R1.mono ?_
  rintro e w1 ⟨rfl, b1⟩
  clear a0 a1
  have q2 := blk_below q1 b1
  have B1 := Bl.trans bW b1
  have a2 : w1.cell? ⟨w.heap.size, 2, none⟩ = some (.int .i64 lo) := cell_of_row w1 _ 2 _ _ _ q2
  have R2 := R2 w1
  go_wp2_with fail
  refine R2.mono ?_
  rintro e w2 ⟨rfl, b2⟩
  clear a2
  have q3 := blk_below q2 b2
  have B2 := Bl.trans B1 b2
  go_wp2_with fail
  go_ret
  exact ⟨rfl, B2⟩
set_option maxRecDepth 100000 in
set_option maxHeartbeats 1000000 in
theorem rt_k3 {x y lo hi tol mat : Int} {pin : Bool}  (w : World)
    (R1 : ∀ w, Calls Tryz.prog 111 #[.agg #[.int .i64 x, .int .i64 y]] w (RB (.bool true) w))
    (R2 : ∀ w, Calls Tryz.prog 112 #[.int .i64 lo] w (RB (.bool true) w))
    (R3 : ∀ w, Calls Tryz.prog 112 #[.int .i64 hi] w (RB (.bool false) w)) :
    Calls Tryz.prog 74 #[.agg #[.int .i64 x, .int .i64 y, .int .i64 lo, .int .i64 hi, .int .i64 tol, .int .i64 mat, .bool pin]] w (RB (.int .i64 2) w) := by
  obtain ⟨W, hW⟩ : ∃ W, w.alloc (.cells #[.int .i64 x, .int .i64 y, .int .i64 lo, .int .i64 hi, .int .i64 tol, .int .i64 mat, .bool pin] 85) = W := ⟨_, rfl⟩
  have q1 : W.heap[w.heap.size]? = some (.cells #[.int .i64 x, .int .i64 y, .int .i64 lo, .int .i64 hi, .int .i64 tol, .int .i64 mat, .bool pin] 85 (0, 0)) := hW ▸ heap_alloc_new w _
  have bW : Below w.heap.size w W := hW ▸ (Below.refl _ w).alloc (Nat.le_refl _) _
  have a0 : W.cell? ⟨w.heap.size, 0, none⟩ = some (.int .i64 x) := cell_of_row W _ 0 _ _ _ q1
  have a1 : W.cell? ⟨w.heap.size, 1, none⟩ = some (.int .i64 y) := cell_of_row W _ 1 _ _ _ q1
  have R1 := R1 W
  go_enter Tryz.func74, Tryz.ntmps74
  go_wp2_with fail
  clear hW
  refine R1.mono ?_
  rintro e w1 ⟨rfl, b1⟩
  clear a0 a1
  have q2 := blk_below q1 b1
  have B1 := Bl.trans bW b1
  have a2 : w1.cell? ⟨w.heap.size, 2, none⟩ = some (.int .i64 lo) := cell_of_row w1 _ 2 _ _ _ q2
  have R2 := R2 w1
  go_wp2_with fail
  refine R2.mono ?_
  rintro e w2 ⟨rfl, b2⟩
  clear a2
  have q3 := blk_below q2 b2
  have B2 := Bl.trans B1 b2
  have a3 : w2.cell? ⟨w.heap.size, 3, none⟩ = some (.int .i64 hi) := cell_of_row w2 _ 3 _ _ _ q3
  have R3 := R3 w2
  go_wp2_with fail
  refine R3.mono ?_
  rintro e w3 ⟨rfl, b3⟩
  clear a3
  have q4 := blk_below q3 b3
  have B3 := Bl.trans B2 b3
  go_wp2_with fail
  go_ret
  exact ⟨rfl, B3⟩
set_option maxRecDepth 100000 in
set_option maxHeartbeats 1000000 in
theorem rt_k4 {x y lo hi tol mat : Int} {pin : Bool} (c1 : hi < lo) (w : World)
    (R1 : ∀ w, Calls Tryz.prog 111 #[.agg #[.int .i64 x, .int .i64 y]] w (RB (.bool true) w))
    (R2 : ∀ w, Calls Tryz.prog 112 #[.int .i64 lo] w (RB (.bool true) w))
    (R3 : ∀ w, Calls Tryz.prog 112 #[.int .i64 hi] w (RB (.bool true) w)) :
    Calls Tryz.prog 74 #[.agg #[.int .i64 x, .int .i64 y, .int .i64 lo, .int .i64 hi, .int .i64 tol, .int .i64 mat, .bool pin]] w (RB (.int .i64 9) w) := by
  obtain ⟨W, hW⟩ : ∃ W, w.alloc (.cells #[.int .i64 x, .int .i64 y, .int .i64 lo, .int .i64 hi, .int .i64 tol, .int .i64 mat, .bool pin] 85) = W := ⟨_, rfl⟩
  have q1 : W.heap[w.heap.size]? = some (.cells #[.int .i64 x, .int .i64 y, .int .i64 lo, .int .i64 hi, .int .i64 tol, .int .i64 mat, .bool pin] 85 (0, 0)) := hW ▸ heap_alloc_new w _
  have bW : Below w.heap.size w W := hW ▸ (Below.refl _ w).alloc (Nat.le_refl _) _
  have a0 : W.cell? ⟨w.heap.size, 0, none⟩ = some (.int .i64 x) := cell_of_row W _ 0 _ _ _ q1
  have a1 : W.cell? ⟨w.heap.size, 1, none⟩ = some (.int .i64 y) := cell_of_row W _ 1 _ _ _ q1
  have R1 := R1 W
  go_enter Tryz.func74, Tryz.ntmps74
  go_wp2_with fail
  clear hW
  refine R1.mono ?_
  rintro e w1 ⟨rfl, b1⟩
  clear a0 a1
  have q2 := blk_below q1 b1
  have B1 := Bl.trans bW b1
  have a2 : w1.cell? ⟨w.heap.size, 2, none⟩ = some (.int .i64 lo) := cell_of_row w1 _ 2 _ _ _ q2
  have R2 := R2 w1
  go_wp2_with fail
  refine R2.mono ?_
  rintro e w2 ⟨rfl, b2⟩
  clear a2
  have q3 := blk_below q2 b2
  have B2 := Bl.trans B1 b2
  have a3 : w2.cell? ⟨w.heap.size, 3, none⟩ = some (.int .i64 hi) := cell_of_row w2 _ 3 _ _ _ q3
  have R3 := R3 w2
  go_wp2_with fail
  refine R3.mono ?_
  rintro e w3 ⟨rfl, b3⟩
  clear a3
  have q4 := blk_below q3 b3
  have B3 := Bl.trans B2 b3
  have a2 : w3.cell? ⟨w.heap.size, 2, none⟩ = some (.int .i64 lo) := cell_of_row w3 _ 2 _ _ _ q4
  have a3 : w3.cell? ⟨w.heap.size, 3, none⟩ = some (.int .i64 hi) := cell_of_row w3 _ 3 _ _ _ q4
  have a4 : w3.cell? ⟨w.heap.size, 4, none⟩ = some (.int .i64 tol) := cell_of_row w3 _ 4 _ _ _ q4
  have a5 : w3.cell? ⟨w.heap.size, 5, none⟩ = some (.int .i64 mat) := cell_of_row w3 _ 5 _ _ _ q4
  have a6 : w3.cell? ⟨w.heap.size, 6, none⟩ = some (.bool pin) := cell_of_row w3 _ 6 _ _ _ q4
  go_wp2_with fail
  go_ret
  exact ⟨rfl, B3⟩
set_option maxRecDepth 100000 in
set_option maxHeartbeats 1000000 in
theorem rt_k5 {x y lo hi tol mat : Int} {pin : Bool} (c1 : lo ≤ hi) (c2 : tol < 0) (w : World)
    (R1 : ∀ w, Calls Tryz.prog 111 #[.agg #[.int .i64 x, .int .i64 y]] w (RB (.bool true) w))
    (R2 : ∀ w, Calls Tryz.prog 112 #[.int .i64 lo] w (RB (.bool true) w))
    (R3 : ∀ w, Calls Tryz.prog 112 #[.int .i64 hi] w (RB (.bool true) w)) :
    Calls Tryz.prog 74 #[.agg #[.int .i64 x, .int .i64 y, .int .i64 lo, .int .i64 hi, .int .i64 tol, .int .i64 mat, .bool pin]] w (RB (.int .i64 2) w) := by
  obtain ⟨W, hW⟩ : ∃ W, w.alloc (.cells #[.int .i64 x, .int .i64 y, .int .i64 lo, .int .i64 hi, .int .i64 tol, .int .i64 mat, .bool pin] 85) = W := ⟨_, rfl⟩
  have q1 : W.heap[w.heap.size]? = some (.cells #[.int .i64 x, .int .i64 y, .int .i64 lo, .int .i64 hi, .int .i64 tol, .int .i64 mat, .bool pin] 85 (0, 0)) := hW ▸ heap_alloc_new w _
  have bW : Below w.heap.size w W := hW ▸ (Below.refl _ w).alloc (Nat.le_refl _) _
  have a0 : W.cell? ⟨w.heap.size, 0, none⟩ = some (.int .i64 x) := cell_of_row W _ 0 _ _ _ q1
  have a1 : W.cell? ⟨w.heap.size, 1, none⟩ = some (.int .i64 y) := cell_of_row W _ 1 _ _ _ q1
  have R1 := R1 W
  go_enter Tryz.func74, Tryz.ntmps74
  go_wp2_with fail
  clear hW
  refine R1.mono ?_
  rintro e w1 ⟨rfl, b1⟩
  clear a0 a1
  have q2 := blk_below q1 b1
  have B1 := Bl.trans bW b1
  have a2 : w1.cell? ⟨w.heap.size, 2, none⟩ = some (.int .i64 lo) := cell_of_row w1 _ 2 _ _ _ q2
  have R2 := R2 w1
  go_wp2_with fail
  refine R2.mono ?_
  rintro e w2 ⟨rfl, b2⟩
  clear a2
  have q3 := blk_below q2 b2
  have B2 := Bl.trans B1 b2
  have a3 : w2.cell? ⟨w.heap.size, 3, none⟩ = some (.int .i64 hi) := cell_of_row w2 _ 3 _ _ _ q3
  have R3 := R3 w2
  go_wp2_with fail
  refine R3.mono ?_
  rintro e w3 ⟨rfl, b3⟩
  clear a3
  have q4 := blk_below q3 b3
  have B3 := Bl.trans B2 b3
  have a2 : w3.cell? ⟨w.heap.size, 2, none⟩ = some (.int .i64 lo) := cell_of_row w3 _ 2 _ _ _ q4
  have a3 : w3.cell? ⟨w.heap.size, 3, none⟩ = some (.int .i64 hi) := cell_of_row w3 _ 3 _ _ _ q4
  have a4 : w3.cell? ⟨w.heap.size, 4, none⟩ = some (.int .i64 tol) := cell_of_row w3 _ 4 _ _ _ q4
  have a5 : w3.cell? ⟨w.heap.size, 5, none⟩ = some (.int .i64 mat) := cell_of_row w3 _ 5 _ _ _ q4
  have a6 : w3.cell? ⟨w.heap.size, 6, none⟩ = some (.bool pin) := cell_of_row w3 _ 6 _ _ _ q4
  go_wp2_with fail
  go_ret
  exact ⟨rfl, B3⟩
set_option maxRecDepth 100000 in
set_option maxHeartbeats 1000000 in
theorem rt_k6 {x y lo hi tol mat : Int} {pin : Bool} (c1 : lo ≤ hi) (c2 : 0 ≤ tol) (c3 : 100000 < tol) (w : World)
    (R1 : ∀ w, Calls Tryz.prog 111 #[.agg #[.int .i64 x, .int .i64 y]] w (RB (.bool true) w))
    (R2 : ∀ w, Calls Tryz.prog 112 #[.int .i64 lo] w (RB (.bool true) w))
    (R3 : ∀ w, Calls Tryz.prog 112 #[.int .i64 hi] w (RB (.bool true) w)) :
    Calls Tryz.prog 74 #[.agg #[.int .i64 x, .int .i64 y, .int .i64 lo, .int .i64 hi, .int .i64 tol, .int .i64 mat, .bool pin]] w (RB (.int .i64 2) w) := by
  obtain ⟨W, hW⟩ : ∃ W, w.alloc (.cells #[.int .i64 x, .int .i64 y, .int .i64 lo, .int .i64 hi, .int .i64 tol, .int .i64 mat, .bool pin] 85) = W := ⟨_, rfl⟩
  have q1 : W.heap[w.heap.size]? = some (.cells #[.int .i64 x, .int .i64 y, .int .i64 lo, .int .i64 hi, .int .i64 tol, .int .i64 mat, .bool pin] 85 (0, 0)) := hW ▸ heap_alloc_new w _
  have bW : Below w.heap.size w W := hW ▸ (Below.refl _ w).alloc (Nat.le_refl _) _
  have a0 : W.cell? ⟨w.heap.size, 0, none⟩ = some (.int .i64 x) := cell_of_row W _ 0 _ _ _ q1
  have a1 : W.cell? ⟨w.heap.size, 1, none⟩ = some (.int .i64 y) := cell_of_row W _ 1 _ _ _ q1
  have R1 := R1 W
  go_enter Tryz.func74, Tryz.ntmps74
  go_wp2_with fail
  clear hW
  refine R1.mono ?_
  rintro e w1 ⟨rfl, b1⟩
  clear a0 a1
  have q2 := blk_below q1 b1
  have B1 := Bl.trans bW b1
  have a2 : w1.cell? ⟨w.heap.size, 2, none⟩ = some (.int .i64 lo) := cell_of_row w1 _ 2 _ _ _ q2
  have R2 := R2 w1
  go_wp2_with fail
  refine R2.mono ?_
  rintro e w2 ⟨rfl, b2⟩
  clear a2
  have q3 := blk_below q2 b2
  have B2 := Bl.trans B1 b2
  have a3 : w2.cell? ⟨w.heap.size, 3, none⟩ = some (.int .i64 hi) := cell_of_row w2 _ 3 _ _ _ q3
  have R3 := R3 w2
  go_wp2_with fail
  refine R3.mono ?_
  rintro e w3 ⟨rfl, b3⟩
  clear a3
  have q4 := blk_below q3 b3
  have B3 := Bl.trans B2 b3
  have a2 : w3.cell? ⟨w.heap.size, 2, none⟩ = some (.int .i64 lo) := cell_of_row w3 _ 2 _ _ _ q4
  have a3 : w3.cell? ⟨w.heap.size, 3, none⟩ = some (.int .i64 hi) := cell_of_row w3 _ 3 _ _ _ q4
  have a4 : w3.cell? ⟨w.heap.size, 4, none⟩ = some (.int .i64 tol) := cell_of_row w3 _ 4 _ _ _ q4
  have a5 : w3.cell? ⟨w.heap.size, 5, none⟩ = some (.int .i64 mat) := cell_of_row w3 _ 5 _ _ _ q4
  have a6 : w3.cell? ⟨w.heap.size, 6, none⟩ = some (.bool pin) := cell_of_row w3 _ 6 _ _ _ q4
  go_wp2_with fail
  go_ret
  exact ⟨rfl, B3⟩
set_option maxRecDepth 100000 in
set_option maxHeartbeats 1000000 in
theorem rt_k7 {x y lo hi tol mat : Int} (c1 : lo ≤ hi) (c2 : 0 ≤ tol) (c3 : tol ≤ 100000) (c4 : lo ≤ tol) (w : World)
    (R1 : ∀ w, Calls Tryz.prog 111 #[.agg #[.int .i64 x, .int .i64 y]] w (RB (.bool true) w))
    (R2 : ∀ w, Calls Tryz.prog 112 #[.int .i64 lo] w (RB (.bool true) w))
    (R3 : ∀ w, Calls Tryz.prog 112 #[.int .i64 hi] w (RB (.bool true) w)) :
    Calls Tryz.prog 74 #[.agg #[.int .i64 x, .int .i64 y, .int .i64 lo, .int .i64 hi, .int .i64 tol, .int .i64 mat, .bool false]] w (RB (.int .i64 2) w) := by
  obtain ⟨W, hW⟩ : ∃ W, w.alloc (.cells #[.int .i64 x, .int .i64 y, .int .i64 lo, .int .i64 hi, .int .i64 tol, .int .i64 mat, .bool false] 85) = W := ⟨_, rfl⟩
  have q1 : W.heap[w.heap.size]? = some (.cells #[.int .i64 x, .int .i64 y, .int .i64 lo, .int .i64 hi, .int .i64 tol, .int .i64 mat, .bool false] 85 (0, 0)) := hW ▸ heap_alloc_new w _
  have bW : Below w.heap.size w W := hW ▸ (Below.refl _ w).alloc (Nat.le_refl _) _
  have a0 : W.cell? ⟨w.heap.size, 0, none⟩ = some (.int .i64 x) := cell_of_row W _ 0 _ _ _ q1
  have a1 : W.cell? ⟨w.heap.size, 1, none⟩ = some (.int .i64 y) := cell_of_row W _ 1 _ _ _ q1
  have R1 := R1 W
  go_enter Tryz.func74, Tryz.ntmps74
  go_wp2_with fail
  clear hW
  refine R1.mono ?_
  rintro e w1 ⟨rfl, b1⟩
  clear a0 a1
  have q2 := blk_below q1 b1
  have B1 := Bl.trans bW b1
  have a2 : w1.cell? ⟨w.heap.size, 2, none⟩ = some (.int .i64 lo) := cell_of_row w1 _ 2 _ _ _ q2
  have R2 := R2 w1
  go_wp2_with fail
  refine R2.mono ?_
  rintro e w2 ⟨rfl, b2⟩
  clear a2
  have q3 := blk_below q2 b2
  have B2 := Bl.trans B1 b2
  have a3 : w2.cell? ⟨w.heap.size, 3, none⟩ = some (.int .i64 hi) := cell_of_row w2 _ 3 _ _ _ q3
  have R3 := R3 w2
  go_wp2_with fail
  refine R3.mono ?_
  rintro e w3 ⟨rfl, b3⟩
  clear a3
  have q4 := blk_below q3 b3
  have B3 := Bl.trans B2 b3
  have a2 : w3.cell? ⟨w.heap.size, 2, none⟩ = some (.int .i64 lo) := cell_of_row w3 _ 2 _ _ _ q4
  have a3 : w3.cell? ⟨w.heap.size, 3, none⟩ = some (.int .i64 hi) := cell_of_row w3 _ 3 _ _ _ q4
  have a4 : w3.cell? ⟨w.heap.size, 4, none⟩ = some (.int .i64 tol) := cell_of_row w3 _ 4 _ _ _ q4
  have a5 : w3.cell? ⟨w.heap.size, 5, none⟩ = some (.int .i64 mat) := cell_of_row w3 _ 5 _ _ _ q4
  have a6 : w3.cell? ⟨w.heap.size, 6, none⟩ = some (.bool false) := cell_of_row w3 _ 6 _ _ _ q4
  go_wp2_with fail
  go_ret
  exact ⟨rfl, B3⟩
set_option maxRecDepth 100000 in
set_option maxHeartbeats 1000000 in
theorem rt_k8t {x y lo hi tol mat : Int} (c1 : lo ≤ hi) (c2 : 0 ≤ tol) (c3 : tol ≤ 100000) (c5 : mat < 0) (w : World)
    (R1 : ∀ w, Calls Tryz.prog 111 #[.agg #[.int .i64 x, .int .i64 y]] w (RB (.bool true) w))
    (R2 : ∀ w, Calls Tryz.prog 112 #[.int .i64 lo] w (RB (.bool true) w))
    (R3 : ∀ w, Calls Tryz.prog 112 #[.int .i64 hi] w (RB (.bool true) w)) :
    Calls Tryz.prog 74 #[.agg #[.int .i64 x, .int .i64 y, .int .i64 lo, .int .i64 hi, .int .i64 tol, .int .i64 mat, .bool true]] w (RB (.int .i64 1) w) := by
  obtain ⟨W, hW⟩ : ∃ W, w.alloc (.cells #[.int .i64 x, .int .i64 y, .int .i64 lo, .int .i64 hi, .int .i64 tol, .int .i64 mat, .bool true] 85) = W := ⟨_, rfl⟩
  have q1 : W.heap[w.heap.size]? = some (.cells #[.int .i64 x, .int .i64 y, .int .i64 lo, .int .i64 hi, .int .i64 tol, .int .i64 mat, .bool true] 85 (0, 0)) := hW ▸ heap_alloc_new w _
  have bW : Below w.heap.size w W := hW ▸ (Below.refl _ w).alloc (Nat.le_refl _) _
  have a0 : W.cell? ⟨w.heap.size, 0, none⟩ = some (.int .i64 x) := cell_of_row W _ 0 _ _ _ q1
  have a1 : W.cell? ⟨w.heap.size, 1, none⟩ = some (.int .i64 y) := cell_of_row W _ 1 _ _ _ q1
  have R1 := R1 W
  go_enter Tryz.func74, Tryz.ntmps74
  go_wp2_with fail
  clear hW
  refine R1.mono ?_
  rintro e w1 ⟨rfl, b1⟩
  clear a0 a1
  have q2 := blk_below q1 b1
  have B1 := Bl.trans bW b1
  have a2 : w1.cell? ⟨w.heap.size, 2, none⟩ = some (.int .i64 lo) := cell_of_row w1 _ 2 _ _ _ q2
  have R2 := R2 w1
  go_wp2_with fail
  refine R2.mono ?_
  rintro e w2 ⟨rfl, b2⟩
  clear a2
  have q3 := blk_below q2 b2
  have B2 := Bl.trans B1 b2
  have a3 : w2.cell? ⟨w.heap.size, 3, none⟩ = some (.int .i64 hi) := cell_of_row w2 _ 3 _ _ _ q3
  have R3 := R3 w2
  go_wp2_with fail
  refine R3.mono ?_
  rintro e w3 ⟨rfl, b3⟩
  clear a3
  have q4 := blk_below q3 b3
  have B3 := Bl.trans B2 b3
  have a2 : w3.cell? ⟨w.heap.size, 2, none⟩ = some (.int .i64 lo) := cell_of_row w3 _ 2 _ _ _ q4
  have a3 : w3.cell? ⟨w.heap.size, 3, none⟩ = some (.int .i64 hi) := cell_of_row w3 _ 3 _ _ _ q4
  have a4 : w3.cell? ⟨w.heap.size, 4, none⟩ = some (.int .i64 tol) := cell_of_row w3 _ 4 _ _ _ q4
  have a5 : w3.cell? ⟨w.heap.size, 5, none⟩ = some (.int .i64 mat) := cell_of_row w3 _ 5 _ _ _ q4
  have a6 : w3.cell? ⟨w.heap.size, 6, none⟩ = some (.bool true) := cell_of_row w3 _ 6 _ _ _ q4
  go_wp2_with fail
  go_ret
  exact ⟨rfl, B3⟩
set_option maxRecDepth 100000 in
set_option maxHeartbeats 1000000 in
theorem rt_k9t {x y lo hi tol mat : Int} (c1 : lo ≤ hi) (c2 : 0 ≤ tol) (c3 : tol ≤ 100000) (c5 : 0 ≤ mat) (c6 : 2 < mat) (w : World)
    (R1 : ∀ w, Calls Tryz.prog 111 #[.agg #[.int .i64 x, .int .i64 y]] w (RB (.bool true) w))
    (R2 : ∀ w, Calls Tryz.prog 112 #[.int .i64 lo] w (RB (.bool true) w))
    (R3 : ∀ w, Calls Tryz.prog 112 #[.int .i64 hi] w (RB (.bool true) w)) :
    Calls Tryz.prog 74 #[.agg #[.int .i64 x, .int .i64 y, .int .i64 lo, .int .i64 hi, .int .i64 tol, .int .i64 mat, .bool true]] w (RB (.int .i64 1) w) := by
  obtain ⟨W, hW⟩ : ∃ W, w.alloc (.cells #[.int .i64 x, .int .i64 y, .int .i64 lo, .int .i64 hi, .int .i64 tol, .int .i64 mat, .bool true] 85) = W := ⟨_, rfl⟩
  have q1 : W.heap[w.heap.size]? = some (.cells #[.int .i64 x, .int .i64 y, .int .i64 lo, .int .i64 hi, .int .i64 tol, .int .i64 mat, .bool true] 85 (0, 0)) := hW ▸ heap_alloc_new w _
  have bW : Below w.heap.size w W := hW ▸ (Below.refl _ w).alloc (Nat.le_refl _) _
  have a0 : W.cell? ⟨w.heap.size, 0, none⟩ = some (.int .i64 x) := cell_of_row W _ 0 _ _ _ q1
  have a1 : W.cell? ⟨w.heap.size, 1, none⟩ = some (.int .i64 y) := cell_of_row W _ 1 _ _ _ q1
  have R1 := R1 W
  go_enter Tryz.func74, Tryz.ntmps74
  go_wp2_with fail
  clear hW
  refine R1.mono ?_
  rintro e w1 ⟨rfl, b1⟩
  clear a0 a1
  have q2 := blk_below q1 b1
  have B1 := Bl.trans bW b1
  have a2 : w1.cell? ⟨w.heap.size, 2, none⟩ = some (.int .i64 lo) := cell_of_row w1 _ 2 _ _ _ q2
  have R2 := R2 w1
  go_wp2_with fail
  refine R2.mono ?_
  rintro e w2 ⟨rfl, b2⟩
  clear a2
  have q3 := blk_below q2 b2
  have B2 := Bl.trans B1 b2
  have a3 : w2.cell? ⟨w.heap.size, 3, none⟩ = some (.int .i64 hi) := cell_of_row w2 _ 3 _ _ _ q3
  have R3 := R3 w2
  go_wp2_with fail
  refine R3.mono ?_
  rintro e w3 ⟨rfl, b3⟩
  clear a3
  have q4 := blk_below q3 b3
  have B3 := Bl.trans B2 b3
  have a2 : w3.cell? ⟨w.heap.size, 2, none⟩ = some (.int .i64 lo) := cell_of_row w3 _ 2 _ _ _ q4
  have a3 : w3.cell? ⟨w.heap.size, 3, none⟩ = some (.int .i64 hi) := cell_of_row w3 _ 3 _ _ _ q4
  have a4 : w3.cell? ⟨w.heap.size, 4, none⟩ = some (.int .i64 tol) := cell_of_row w3 _ 4 _ _ _ q4
  have a5 : w3.cell? ⟨w.heap.size, 5, none⟩ = some (.int .i64 mat) := cell_of_row w3 _ 5 _ _ _ q4
  have a6 : w3.cell? ⟨w.heap.size, 6, none⟩ = some (.bool true) := cell_of_row w3 _ 6 _ _ _ q4
  go_wp2_with fail
  go_ret
  exact ⟨rfl, B3⟩
set_option maxRecDepth 100000 in
set_option maxHeartbeats 1000000 in
theorem rt_k0t {x y lo hi tol mat : Int} (c1 : lo ≤ hi) (c2 : 0 ≤ tol) (c3 : tol ≤ 100000) (c5 : 0 ≤ mat) (c6 : mat ≤ 2) (w : World)
    (R1 : ∀ w, Calls Tryz.prog 111 #[.agg #[.int .i64 x, .int .i64 y]] w (RB (.bool true) w))
    (R2 : ∀ w, Calls Tryz.prog 112 #[.int .i64 lo] w (RB (.bool true) w))
    (R3 : ∀ w, Calls Tryz.prog 112 #[.int .i64 hi] w (RB (.bool true) w)) :
    Calls Tryz.prog 74 #[.agg #[.int .i64 x, .int .i64 y, .int .i64 lo, .int .i64 hi, .int .i64 tol, .int .i64 mat, .bool true]] w (RB (.int .i64 0) w) := by
  obtain ⟨W, hW⟩ : ∃ W, w.alloc (.cells #[.int .i64 x, .int .i64 y, .int .i64 lo, .int .i64 hi, .int .i64 tol, .int .i64 mat, .bool true] 85) = W := ⟨_, rfl⟩
  have q1 : W.heap[w.heap.size]? = some (.cells #[.int .i64 x, .int .i64 y, .int .i64 lo, .int .i64 hi, .int .i64 tol, .int .i64 mat, .bool true] 85 (0, 0)) := hW ▸ heap_alloc_new w _
  have bW : Below w.heap.size w W := hW ▸ (Below.refl _ w).alloc (Nat.le_refl _) _
  have a0 : W.cell? ⟨w.heap.size, 0, none⟩ = some (.int .i64 x) := cell_of_row W _ 0 _ _ _ q1
  have a1 : W.cell? ⟨w.heap.size, 1, none⟩ = some (.int .i64 y) := cell_of_row W _ 1 _ _ _ q1
  have R1 := R1 W
  go_enter Tryz.func74, Tryz.ntmps74
  go_wp2_with fail
  clear hW
  refine R1.mono ?_
  rintro e w1 ⟨rfl, b1⟩
  clear a0 a1
  have q2 := blk_below q1 b1
  have B1 := Bl.trans bW b1
  have a2 : w1.cell? ⟨w.heap.size, 2, none⟩ = some (.int .i64 lo) := cell_of_row w1 _ 2 _ _ _ q2
  have R2 := R2 w1
  go_wp2_with fail
  refine R2.mono ?_
  rintro e w2 ⟨rfl, b2⟩
  clear a2
  have q3 := blk_below q2 b2
  have B2 := Bl.trans B1 b2
  have a3 : w2.cell? ⟨w.heap.size, 3, none⟩ = some (.int .i64 hi) := cell_of_row w2 _ 3 _ _ _ q3
  have R3 := R3 w2
  go_wp2_with fail
  refine R3.mono ?_
  rintro e w3 ⟨rfl, b3⟩
  clear a3
  have q4 := blk_below q3 b3
  have B3 := Bl.trans B2 b3
  have a2 : w3.cell? ⟨w.heap.size, 2, none⟩ = some (.int .i64 lo) := cell_of_row w3 _ 2 _ _ _ q4
  have a3 : w3.cell? ⟨w.heap.size, 3, none⟩ = some (.int .i64 hi) := cell_of_row w3 _ 3 _ _ _ q4
  have a4 : w3.cell? ⟨w.heap.size, 4, none⟩ = some (.int .i64 tol) := cell_of_row w3 _ 4 _ _ _ q4
  have a5 : w3.cell? ⟨w.heap.size, 5, none⟩ = some (.int .i64 mat) := cell_of_row w3 _ 5 _ _ _ q4
  have a6 : w3.cell? ⟨w.heap.size, 6, none⟩ = some (.bool true) := cell_of_row w3 _ 6 _ _ _ q4
  go_wp2_with fail
  go_ret
  exact ⟨rfl, B3⟩
set_option maxRecDepth 100000 in
set_option maxHeartbeats 1000000 in
theorem rt_k8f {x y lo hi tol mat : Int} (c1 : lo ≤ hi) (c2 : 0 ≤ tol) (c3 : tol ≤ 100000) (c4 : tol < lo) (c5 : mat < 0) (w : World)
    (R1 : ∀ w, Calls Tryz.prog 111 #[.agg #[.int .i64 x, .int .i64 y]] w (RB (.bool true) w))
    (R2 : ∀ w, Calls Tryz.prog 112 #[.int .i64 lo] w (RB (.bool true) w))
    (R3 : ∀ w, Calls Tryz.prog 112 #[.int .i64 hi] w (RB (.bool true) w)) :
    Calls Tryz.prog 74 #[.agg #[.int .i64 x, .int .i64 y, .int .i64 lo, .int .i64 hi, .int .i64 tol, .int .i64 mat, .bool false]] w (RB (.int .i64 1) w) := by
  obtain ⟨W, hW⟩ : ∃ W, w.alloc (.cells #[.int .i64 x, .int .i64 y, .int .i64 lo, .int .i64 hi, .int .i64 tol, .int .i64 mat, .bool false] 85) = W := ⟨_, rfl⟩
  have q1 : W.heap[w.heap.size]? = some (.cells #[.int .i64 x, .int .i64 y, .int .i64 lo, .int .i64 hi, .int .i64 tol, .int .i64 mat, .bool false] 85 (0, 0)) := hW ▸ heap_alloc_new w _
  have bW : Below w.heap.size w W := hW ▸ (Below.refl _ w).alloc (Nat.le_refl _) _
  have a0 : W.cell? ⟨w.heap.size, 0, none⟩ = some (.int .i64 x) := cell_of_row W _ 0 _ _ _ q1
  have a1 : W.cell? ⟨w.heap.size, 1, none⟩ = some (.int .i64 y) := cell_of_row W _ 1 _ _ _ q1
  have R1 := R1 W
  go_enter Tryz.func74, Tryz.ntmps74
  go_wp2_with fail
  clear hW
  refine R1.mono ?_
  rintro e w1 ⟨rfl, b1⟩
  clear a0 a1
  have q2 := blk_below q1 b1
  have B1 := Bl.trans bW b1
  have a2 : w1.cell? ⟨w.heap.size, 2, none⟩ = some (.int .i64 lo) := cell_of_row w1 _ 2 _ _ _ q2
  have R2 := R2 w1
  go_wp2_with fail
  refine R2.mono ?_
  rintro e w2 ⟨rfl, b2⟩
  clear a2
  have q3 := blk_below q2 b2
  have B2 := Bl.trans B1 b2
  have a3 : w2.cell? ⟨w.heap.size, 3, none⟩ = some (.int .i64 hi) := cell_of_row w2 _ 3 _ _ _ q3
  have R3 := R3 w2
  go_wp2_with fail
  refine R3.mono ?_
  rintro e w3 ⟨rfl, b3⟩
  clear a3
  have q4 := blk_below q3 b3
  have B3 := Bl.trans B2 b3
  have a2 : w3.cell? ⟨w.heap.size, 2, none⟩ = some (.int .i64 lo) := cell_of_row w3 _ 2 _ _ _ q4
  have a3 : w3.cell? ⟨w.heap.size, 3, none⟩ = some (.int .i64 hi) := cell_of_row w3 _ 3 _ _ _ q4
  have a4 : w3.cell? ⟨w.heap.size, 4, none⟩ = some (.int .i64 tol) := cell_of_row w3 _ 4 _ _ _ q4
  have a5 : w3.cell? ⟨w.heap.size, 5, none⟩ = some (.int .i64 mat) := cell_of_row w3 _ 5 _ _ _ q4
  have a6 : w3.cell? ⟨w.heap.size, 6, none⟩ = some (.bool false) := cell_of_row w3 _ 6 _ _ _ q4
  go_wp2_with fail
  go_ret
  exact ⟨rfl, B3⟩
set_option maxRecDepth 100000 in
set_option maxHeartbeats 1000000 in
theorem rt_k9f {x y lo hi tol mat : Int} (c1 : lo ≤ hi) (c2 : 0 ≤ tol) (c3 : tol ≤ 100000) (c4 : tol < lo) (c5 : 0 ≤ mat) (c6 : 2 < mat) (w : World)
    (R1 : ∀ w, Calls Tryz.prog 111 #[.agg #[.int .i64 x, .int .i64 y]] w (RB (.bool true) w))
    (R2 : ∀ w, Calls Tryz.prog 112 #[.int .i64 lo] w (RB (.bool true) w))
    (R3 : ∀ w, Calls Tryz.prog 112 #[.int .i64 hi] w (RB (.bool true) w)) :
    Calls Tryz.prog 74 #[.agg #[.int .i64 x, .int .i64 y, .int .i64 lo, .int .i64 hi, .int .i64 tol, .int .i64 mat, .bool false]] w (RB (.int .i64 1) w) := by
  obtain ⟨W, hW⟩ : ∃ W, w.alloc (.cells #[.int .i64 x, .int .i64 y, .int .i64 lo, .int .i64 hi, .int .i64 tol, .int .i64 mat, .bool false] 85) = W := ⟨_, rfl⟩
  have q1 : W.heap[w.heap.size]? = some (.cells #[.int .i64 x, .int .i64 y, .int .i64 lo, .int .i64 hi, .int .i64 tol, .int .i64 mat, .bool false] 85 (0, 0)) := hW ▸ heap_alloc_new w _
  have bW : Below w.heap.size w W := hW ▸ (Below.refl _ w).alloc (Nat.le_refl _) _
  have a0 : W.cell? ⟨w.heap.size, 0, none⟩ = some (.int .i64 x) := cell_of_row W _ 0 _ _ _ q1
  have a1 : W.cell? ⟨w.heap.size, 1, none⟩ = some (.int .i64 y) := cell_of_row W _ 1 _ _ _ q1
  have R1 := R1 W
  go_enter Tryz.func74, Tryz.ntmps74
  go_wp2_with fail
  clear hW
  refine R1.mono ?_
  rintro e w1 ⟨rfl, b1⟩
  clear a0 a1
  have q2 := blk_below q1 b1
  have B1 := Bl.trans bW b1
  have a2 : w1.cell? ⟨w.heap.size, 2, none⟩ = some (.int .i64 lo) := cell_of_row w1 _ 2 _ _ _ q2
  have R2 := R2 w1
  go_wp2_with fail
  refine R2.mono ?_
  rintro e w2 ⟨rfl, b2⟩
  clear a2
  have q3 := blk_below q2 b2
  have B2 := Bl.trans B1 b2
  have a3 : w2.cell? ⟨w.heap.size, 3, none⟩ = some (.int .i64 hi) := cell_of_row w2 _ 3 _ _ _ q3
  have R3 := R3 w2
  go_wp2_with fail
  refine R3.mono ?_
  rintro e w3 ⟨rfl, b3⟩
  clear a3
  have q4 := blk_below q3 b3
  have B3 := Bl.trans B2 b3
  have a2 : w3.cell? ⟨w.heap.size, 2, none⟩ = some (.int .i64 lo) := cell_of_row w3 _ 2 _ _ _ q4
  have a3 : w3.cell? ⟨w.heap.size, 3, none⟩ = some (.int .i64 hi) := cell_of_row w3 _ 3 _ _ _ q4
  have a4 : w3.cell? ⟨w.heap.size, 4, none⟩ = some (.int .i64 tol) := cell_of_row w3 _ 4 _ _ _ q4
  have a5 : w3.cell? ⟨w.heap.size, 5, none⟩ = some (.int .i64 mat) := cell_of_row w3 _ 5 _ _ _ q4
  have a6 : w3.cell? ⟨w.heap.size, 6, none⟩ = some (.bool false) := cell_of_row w3 _ 6 _ _ _ q4
  go_wp2_with fail
  go_ret
  exact ⟨rfl, B3⟩
set_option maxRecDepth 100000 in
set_option maxHeartbeats 1000000 in
theorem rt_k0f {x y lo hi tol mat : Int} (c1 : lo ≤ hi) (c2 : 0 ≤ tol) (c3 : tol ≤ 100000) (c4 : tol < lo) (c5 : 0 ≤ mat) (c6 : mat ≤ 2) (w : World)
    (R1 : ∀ w, Calls Tryz.prog 111 #[.agg #[.int .i64 x, .int .i64 y]] w (RB (.bool true) w))
    (R2 : ∀ w, Calls Tryz.prog 112 #[.int .i64 lo] w (RB (.bool true) w))
    (R3 : ∀ w, Calls Tryz.prog 112 #[.int .i64 hi] w (RB (.bool true) w)) :
    Calls Tryz.prog 74 #[.agg #[.int .i64 x, .int .i64 y, .int .i64 lo, .int .i64 hi, .int .i64 tol, .int .i64 mat, .bool false]] w (RB (.int .i64 0) w) := by
  obtain ⟨W, hW⟩ : ∃ W, w.alloc (.cells #[.int .i64 x, .int .i64 y, .int .i64 lo, .int .i64 hi, .int .i64 tol, .int .i64 mat, .bool false] 85) = W := ⟨_, rfl⟩
  have q1 : W.heap[w.heap.size]? = some (.cells #[.int .i64 x, .int .i64 y, .int .i64 lo, .int .i64 hi, .int .i64 tol, .int .i64 mat, .bool false] 85 (0, 0)) := hW ▸ heap_alloc_new w _
  have bW : Below w.heap.size w W := hW ▸ (Below.refl _ w).alloc (Nat.le_refl _) _
  have a0 : W.cell? ⟨w.heap.size, 0, none⟩ = some (.int .i64 x) := cell_of_row W _ 0 _ _ _ q1
  have a1 : W.cell? ⟨w.heap.size, 1, none⟩ = some (.int .i64 y) := cell_of_row W _ 1 _ _ _ q1
  have R1 := R1 W
  go_enter Tryz.func74, Tryz.ntmps74
  go_wp2_with fail
  clear hW
  refine R1.mono ?_
  rintro e w1 ⟨rfl, b1⟩
  clear a0 a1
  have q2 := blk_below q1 b1
  have B1 := Bl.trans bW b1
  have a2 : w1.cell? ⟨w.heap.size, 2, none⟩ = some (.int .i64 lo) := cell_of_row w1 _ 2 _ _ _ q2
  have R2 := R2 w1
  go_wp2_with fail
  refine R2.mono ?_
  rintro e w2 ⟨rfl, b2⟩
  clear a2
  have q3 := blk_below q2 b2
  have B2 := Bl.trans B1 b2
  have a3 : w2.cell? ⟨w.heap.size, 3, none⟩ = some (.int .i64 hi) := cell_of_row w2 _ 3 _ _ _ q3
  have R3 := R3 w2
  go_wp2_with fail
  refine R3.mono ?_
  rintro e w3 ⟨rfl, b3⟩
  clear a3
  have q4 := blk_below q3 b3
  have B3 := Bl.trans B2 b3
  have a2 : w3.cell? ⟨w.heap.size, 2, none⟩ = some (.int .i64 lo) := cell_of_row w3 _ 2 _ _ _ q4
  have a3 : w3.cell? ⟨w.heap.size, 3, none⟩ = some (.int .i64 hi) := cell_of_row w3 _ 3 _ _ _ q4
  have a4 : w3.cell? ⟨w.heap.size, 4, none⟩ = some (.int .i64 tol) := cell_of_row w3 _ 4 _ _ _ q4
  have a5 : w3.cell? ⟨w.heap.size, 5, none⟩ = some (.int .i64 mat) := cell_of_row w3 _ 5 _ _ _ q4
  have a6 : w3.cell? ⟨w.heap.size, 6, none⟩ = some (.bool false) := cell_of_row w3 _ 6 _ _ _ q4
  go_wp2_with fail
  go_ret
  exact ⟨rfl, B3⟩

theorem rtchk_c (t : Tg) (w : World) : Calls Tryz.prog 74 #[.agg (tcells t)] w (RB (.int .i64 (tchk t)) w) := by
  obtain ⟨x, y, lo, hi, tol, mat, pin⟩ := t
  unfold tcells tchk
  have R1 := fun w => rright_c x y w
  have R2 := fun w => rsize_c lo w
  have R3 := fun w => rsize_c hi w
  simp only
  cases hx : inb x && inb y with
  | false =>
    rw [hx] at R1
    rw [if_pos (by rintro ⟨h1, h2, _⟩; rw [h1, h2] at hx; cases hx)]
    exact rt_k1 w R1
  | true =>
    rw [hx] at R1
    obtain ⟨h1, h2⟩ := (Bool.and_eq_true _ _).mp hx
    cases hl : szb lo with
    | false =>
      rw [hl] at R2
      rw [if_pos (by rintro ⟨_, _, h, _⟩; cases h)]
      exact rt_k2 w R1 R2
    | true =>
      rw [hl] at R2
      cases hh : szb hi with
      | false =>
        rw [hh] at R3
        rw [if_pos (by rintro ⟨_, _, _, h⟩; cases h)]
        exact rt_k3 w R1 R2 R3
      | true =>
        rw [hh] at R3
        rw [if_neg (fun k => k ⟨h1, h2, rfl, rfl⟩)]
        by_cases c1 : hi < lo
        · rw [if_pos c1]; exact rt_k4 c1 w R1 R2 R3
        · rw [if_neg c1]
          have c1 : lo ≤ hi := by omega
          by_cases c2 : tol < 0
          · rw [if_pos (.inl c2)]; exact rt_k5 c1 c2 w R1 R2 R3
          · have c2 : 0 ≤ tol := by omega
            by_cases c3 : 100000 < tol
            · rw [if_pos (.inr (.inl c3))]; exact rt_k6 c1 c2 c3 w R1 R2 R3
            · have c3 : tol ≤ 100000 := by omega
              cases pin with
              | true =>
                rw [if_neg (by rintro (h | h | ⟨h, _⟩) <;> first | omega | cases h)]
                by_cases c5 : mat < 0
                · rw [if_pos (.inl c5)]; exact rt_k8t c1 c2 c3 c5 w R1 R2 R3
                · have c5 : 0 ≤ mat := by omega
                  by_cases c6 : 2 < mat
                  · rw [if_pos (.inr c6)]; exact rt_k9t c1 c2 c3 c5 c6 w R1 R2 R3
                  · rw [if_neg (by omega)]; exact rt_k0t c1 c2 c3 c5 (by omega) w R1 R2 R3
              | false =>
                by_cases c4 : lo ≤ tol
                · rw [if_pos (.inr (.inr ⟨rfl, c4⟩))]; exact rt_k7 c1 c2 c3 c4 w R1 R2 R3
                · have c4 : tol < lo := by omega
                  rw [if_neg (by rintro (h | h | ⟨_, h⟩) <;> omega)]
                  by_cases c5 : mat < 0
                  · rw [if_pos (.inl c5)]; exact rt_k8f c1 c2 c3 c4 c5 w R1 R2 R3
                  · have c5 : 0 ≤ mat := by omega
                    by_cases c6 : 2 < mat
                    · rw [if_pos (.inr c6)]; exact rt_k9f c1 c2 c3 c4 c5 c6 w R1 R2 R3
                    · rw [if_neg (by omega)]; exact rt_k0f c1 c2 c3 c4 c5 (by omega) w R1 R2 R3
end Go.Proofs.YtdknneofiefieaaGreatDoor
