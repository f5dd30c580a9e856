import Derived.Test.YtdknneofiefieaaGreatDoorGx
import Derived.Test.YtdknneofiefieaaGreatDoorGp
import Derived.Test.YtdknneofiefieaaGreatDoorGd
import Derived.Test.YtdknneofiefieaaGreatDoorPm
import Derived.Test.YtdknneofiefieaaGreatDoorRig

namespace Go.Proofs.YtdknneofiefieaaGreatDoor
open Go.RowKit Go.Lib Sh

set_option maxRecDepth 100000 in
set_option maxHeartbeats 1000000 in
theorem bk_xa {x y lo hi tol mat : Int} {pin : Bool} (_h0 : x < -100000) (w : World) :
    Calls Tryz.prog 72 #[.agg #[.int .i64 x, .int .i64 y, .int .i64 lo, .int .i64 hi, .int .i64 tol, .int .i64 mat, .bool pin]] w (RB (.int .i64 2) w) := by
  go_enter Tryz.func72, Tryz.ntmps72
  go_wp2
  go_ret
  exact ⟨rfl, (Below.refl _ w).alloc (Nat.le_refl _) _⟩
set_option maxRecDepth 100000 in
set_option maxHeartbeats 1000000 in
theorem bk_xb {x y lo hi tol mat : Int} {pin : Bool} (_h0 : -100000 ≤ x) (_h1 : 100000 < x) (w : World) :
    Calls Tryz.prog 72 #[.agg #[.int .i64 x, .int .i64 y, .int .i64 lo, .int .i64 hi, .int .i64 tol, .int .i64 mat, .bool pin]] w (RB (.int .i64 2) w) := by
  go_enter Tryz.func72, Tryz.ntmps72
  go_wp2
  go_ret
  exact ⟨rfl, (Below.refl _ w).alloc (Nat.le_refl _) _⟩
set_option maxRecDepth 100000 in
set_option maxHeartbeats 1000000 in
theorem bk_ya {x y lo hi tol mat : Int} {pin : Bool} (_h0 : -100000 ≤ x) (_h1 : x ≤ 100000) (_h2 : y < -100000) (w : World) :
    Calls Tryz.prog 72 #[.agg #[.int .i64 x, .int .i64 y, .int .i64 lo, .int .i64 hi, .int .i64 tol, .int .i64 mat, .bool pin]] w (RB (.int .i64 2) w) := by
  go_enter Tryz.func72, Tryz.ntmps72
  go_wp2
  go_ret
  exact ⟨rfl, (Below.refl _ w).alloc (Nat.le_refl _) _⟩
set_option maxRecDepth 100000 in
set_option maxHeartbeats 1000000 in
theorem bk_yb {x y lo hi tol mat : Int} {pin : Bool} (_h0 : -100000 ≤ x) (_h1 : x ≤ 100000) (_h2 : -100000 ≤ y) (_h3 : 100000 < y) (w : World) :
    Calls Tryz.prog 72 #[.agg #[.int .i64 x, .int .i64 y, .int .i64 lo, .int .i64 hi, .int .i64 tol, .int .i64 mat, .bool pin]] w (RB (.int .i64 2) w) := by
  go_enter Tryz.func72, Tryz.ntmps72
  go_wp2
  go_ret
  exact ⟨rfl, (Below.refl _ w).alloc (Nat.le_refl _) _⟩
set_option maxRecDepth 100000 in
set_option maxHeartbeats 1000000 in
theorem bk_la {x y lo hi tol mat : Int} {pin : Bool} (_h0 : -100000 ≤ x) (_h1 : x ≤ 100000) (_h2 : -100000 ≤ y) (_h3 : y ≤ 100000) (_h4 : lo < 1) (w : World) :
    Calls Tryz.prog 72 #[.agg #[.int .i64 x, .int .i64 y, .int .i64 lo, .int .i64 hi, .int .i64 tol, .int .i64 mat, .bool pin]] w (RB (.int .i64 2) w) := by
  go_enter Tryz.func72, Tryz.ntmps72
  go_wp2
  go_ret
  exact ⟨rfl, (Below.refl _ w).alloc (Nat.le_refl _) _⟩
set_option maxRecDepth 100000 in
set_option maxHeartbeats 1000000 in
theorem bk_lb {x y lo hi tol mat : Int} {pin : Bool} (_h0 : -100000 ≤ x) (_h1 : x ≤ 100000) (_h2 : -100000 ≤ y) (_h3 : y ≤ 100000) (_h4 : 1 ≤ lo) (_h5 : 100000 < lo) (w : World) :
    Calls Tryz.prog 72 #[.agg #[.int .i64 x, .int .i64 y, .int .i64 lo, .int .i64 hi, .int .i64 tol, .int .i64 mat, .bool pin]] w (RB (.int .i64 2) w) := by
  go_enter Tryz.func72, Tryz.ntmps72
  go_wp2
  go_ret
  exact ⟨rfl, (Below.refl _ w).alloc (Nat.le_refl _) _⟩
set_option maxRecDepth 100000 in
set_option maxHeartbeats 1000000 in
theorem bk_ha {x y lo hi tol mat : Int} {pin : Bool} (_h0 : -100000 ≤ x) (_h1 : x ≤ 100000) (_h2 : -100000 ≤ y) (_h3 : y ≤ 100000) (_h4 : 1 ≤ lo) (_h5 : lo ≤ 100000) (_h6 : hi < 1) (w : World) :
    Calls Tryz.prog 72 #[.agg #[.int .i64 x, .int .i64 y, .int .i64 lo, .int .i64 hi, .int .i64 tol, .int .i64 mat, .bool pin]] w (RB (.int .i64 2) w) := by
  go_enter Tryz.func72, Tryz.ntmps72
  go_wp2
  go_ret
  exact ⟨rfl, (Below.refl _ w).alloc (Nat.le_refl _) _⟩
set_option maxRecDepth 100000 in
set_option maxHeartbeats 1000000 in
theorem bk_hb {x y lo hi tol mat : Int} {pin : Bool} (_h0 : -100000 ≤ x) (_h1 : x ≤ 100000) (_h2 : -100000 ≤ y) (_h3 : y ≤ 100000) (_h4 : 1 ≤ lo) (_h5 : lo ≤ 100000) (_h6 : 1 ≤ hi) (_h7 : ¬ hi ≤ 100000) (w : World) :
    Calls Tryz.prog 72 #[.agg #[.int .i64 x, .int .i64 y, .int .i64 lo, .int .i64 hi, .int .i64 tol, .int .i64 mat, .bool pin]] w (RB (.int .i64 2) w) := by
  go_enter Tryz.func72, Tryz.ntmps72
  go_wp2
  go_ret
  exact ⟨rfl, (Below.refl _ w).alloc (Nat.le_refl _) _⟩
set_option maxRecDepth 100000 in
set_option maxHeartbeats 1000000 in
theorem bk_or {x y lo hi tol mat : Int} {pin : Bool} (_h0 : -100000 ≤ x) (_h1 : x ≤ 100000) (_h2 : -100000 ≤ y) (_h3 : y ≤ 100000) (_h4 : 1 ≤ lo) (_h5 : lo ≤ 100000) (_h6 : 1 ≤ hi) (_h7 : hi ≤ 100000) (_h8 : hi < lo) (w : World) :
    Calls Tryz.prog 72 #[.agg #[.int .i64 x, .int .i64 y, .int .i64 lo, .int .i64 hi, .int .i64 tol, .int .i64 mat, .bool pin]] w (RB (.int .i64 9) w) := by
  go_enter Tryz.func72, Tryz.ntmps72
  go_wp2
  go_ret
  exact ⟨rfl, (Below.refl _ w).alloc (Nat.le_refl _) _⟩
set_option maxRecDepth 100000 in
set_option maxHeartbeats 1000000 in
theorem bk_ta {x y lo hi tol mat : Int} {pin : Bool} (_h0 : -100000 ≤ x) (_h1 : x ≤ 100000) (_h2 : -100000 ≤ y) (_h3 : y ≤ 100000) (_h4 : 1 ≤ lo) (_h5 : lo ≤ 100000) (_h6 : 1 ≤ hi) (_h7 : hi ≤ 100000) (_h8 : lo ≤ hi) (_h9 : tol < 0) (w : World) :
    Calls Tryz.prog 72 #[.agg #[.int .i64 x, .int .i64 y, .int .i64 lo, .int .i64 hi, .int .i64 tol, .int .i64 mat, .bool pin]] w (RB (.int .i64 2) w) := by
  go_enter Tryz.func72, Tryz.ntmps72
  go_wp2
  go_ret
  exact ⟨rfl, (Below.refl _ w).alloc (Nat.le_refl _) _⟩
set_option maxRecDepth 100000 in
set_option maxHeartbeats 1000000 in
theorem bk_tb {x y lo hi tol mat : Int} {pin : Bool} (_h0 : -100000 ≤ x) (_h1 : x ≤ 100000) (_h2 : -100000 ≤ y) (_h3 : y ≤ 100000) (_h4 : 1 ≤ lo) (_h5 : lo ≤ 100000) (_h6 : 1 ≤ hi) (_h7 : hi ≤ 100000) (_h8 : lo ≤ hi) (_h9 : 0 ≤ tol) (_h10 : 100000 < tol) (w : World) :
    Calls Tryz.prog 72 #[.agg #[.int .i64 x, .int .i64 y, .int .i64 lo, .int .i64 hi, .int .i64 tol, .int .i64 mat, .bool pin]] w (RB (.int .i64 2) w) := by
  go_enter Tryz.func72, Tryz.ntmps72
  go_wp2
  go_ret
  exact ⟨rfl, (Below.refl _ w).alloc (Nat.le_refl _) _⟩
set_option maxRecDepth 100000 in
set_option maxHeartbeats 1000000 in
theorem bk_tc {x y lo hi tol mat : Int} (_h0 : -100000 ≤ x) (_h1 : x ≤ 100000) (_h2 : -100000 ≤ y) (_h3 : y ≤ 100000) (_h4 : 1 ≤ lo) (_h5 : lo ≤ 100000) (_h6 : 1 ≤ hi) (_h7 : hi ≤ 100000) (_h8 : lo ≤ hi) (_h9 : 0 ≤ tol) (_h10 : tol ≤ 100000) (_h11 : lo ≤ tol) (w : World) :
    Calls Tryz.prog 72 #[.agg #[.int .i64 x, .int .i64 y, .int .i64 lo, .int .i64 hi, .int .i64 tol, .int .i64 mat, .bool false]] w (RB (.int .i64 2) w) := by
  go_enter Tryz.func72, Tryz.ntmps72
  go_wp2
  go_ret
  exact ⟨rfl, (Below.refl _ w).alloc (Nat.le_refl _) _⟩
set_option maxRecDepth 100000 in
set_option maxHeartbeats 1000000 in
theorem bk_mat1 {x y lo hi tol mat : Int} (_h0 : -100000 ≤ x) (_h1 : x ≤ 100000) (_h2 : -100000 ≤ y) (_h3 : y ≤ 100000) (_h4 : 1 ≤ lo) (_h5 : lo ≤ 100000) (_h6 : 1 ≤ hi) (_h7 : hi ≤ 100000) (_h8 : lo ≤ hi) (_h9 : 0 ≤ tol) (_h10 : tol ≤ 100000) (_h11 : mat < 0) (w : World) :
    Calls Tryz.prog 72 #[.agg #[.int .i64 x, .int .i64 y, .int .i64 lo, .int .i64 hi, .int .i64 tol, .int .i64 mat, .bool true]] w (RB (.int .i64 1) w) := by
  go_enter Tryz.func72, Tryz.ntmps72
  go_wp2
  go_ret
  exact ⟨rfl, (Below.refl _ w).alloc (Nat.le_refl _) _⟩
set_option maxRecDepth 100000 in
set_option maxHeartbeats 1000000 in
theorem bk_mat2 {x y lo hi tol mat : Int} (_h0 : -100000 ≤ x) (_h1 : x ≤ 100000) (_h2 : -100000 ≤ y) (_h3 : y ≤ 100000) (_h4 : 1 ≤ lo) (_h5 : lo ≤ 100000) (_h6 : 1 ≤ hi) (_h7 : hi ≤ 100000) (_h8 : lo ≤ hi) (_h9 : 0 ≤ tol) (_h10 : tol ≤ 100000) (_h11 : 0 ≤ mat) (_h12 : 2 < mat) (w : World) :
    Calls Tryz.prog 72 #[.agg #[.int .i64 x, .int .i64 y, .int .i64 lo, .int .i64 hi, .int .i64 tol, .int .i64 mat, .bool true]] w (RB (.int .i64 1) w) := by
  go_enter Tryz.func72, Tryz.ntmps72
  go_wp2
  go_ret
  exact ⟨rfl, (Below.refl _ w).alloc (Nat.le_refl _) _⟩
set_option maxRecDepth 100000 in
set_option maxHeartbeats 1000000 in
theorem bk_maf1 {x y lo hi tol mat : Int} (_h0 : -100000 ≤ x) (_h1 : x ≤ 100000) (_h2 : -100000 ≤ y) (_h3 : y ≤ 100000) (_h4 : 1 ≤ lo) (_h5 : lo ≤ 100000) (_h6 : 1 ≤ hi) (_h7 : hi ≤ 100000) (_h8 : lo ≤ hi) (_h9 : 0 ≤ tol) (_h10 : tol ≤ 100000) (_h11 : tol < lo) (_h12 : mat < 0) (w : World) :
    Calls Tryz.prog 72 #[.agg #[.int .i64 x, .int .i64 y, .int .i64 lo, .int .i64 hi, .int .i64 tol, .int .i64 mat, .bool false]] w (RB (.int .i64 1) w) := by
  go_enter Tryz.func72, Tryz.ntmps72
  go_wp2
  go_ret
  exact ⟨rfl, (Below.refl _ w).alloc (Nat.le_refl _) _⟩
set_option maxRecDepth 100000 in
set_option maxHeartbeats 1000000 in
theorem bk_maf2 {x y lo hi tol mat : Int} (_h0 : -100000 ≤ x) (_h1 : x ≤ 100000) (_h2 : -100000 ≤ y) (_h3 : y ≤ 100000) (_h4 : 1 ≤ lo) (_h5 : lo ≤ 100000) (_h6 : 1 ≤ hi) (_h7 : hi ≤ 100000) (_h8 : lo ≤ hi) (_h9 : 0 ≤ tol) (_h10 : tol ≤ 100000) (_h11 : tol < lo) (_h12 : 0 ≤ mat) (_h13 : 2 < mat) (w : World) :
    Calls Tryz.prog 72 #[.agg #[.int .i64 x, .int .i64 y, .int .i64 lo, .int .i64 hi, .int .i64 tol, .int .i64 mat, .bool false]] w (RB (.int .i64 1) w) := by
  go_enter Tryz.func72, Tryz.ntmps72
  go_wp2
  go_ret
  exact ⟨rfl, (Below.refl _ w).alloc (Nat.le_refl _) _⟩

theorem inb_no {n : Int} (h : inb n = false) : n < -100000 ∨ (-100000 ≤ n ∧ 100000 < n) := by
  have : ¬ (-100000 ≤ n ∧ n ≤ 100000) := fun k => by rw [inb_iff.2 k] at h; cases h
  omega
theorem szb_no {n : Int} (h : szb n = false) : n < 1 ∨ (1 ≤ n ∧ 100000 < n) := by
  have : ¬ (1 ≤ n ∧ n ≤ 100000) := fun k => by rw [szb_iff.2 k] at h; cases h
  omega
theorem bchk_c (t : Tg) (w : World) : Calls Tryz.prog 72 #[.agg (tcells t)] w (RB (.int .i64 (tchk t)) w) := by
  by_cases hok : tchk t = 0
  · rw [hok]; exact bCheck_c ((tchk_iff t).1 hok) w
  obtain ⟨x, y, lo, hi, tol, mat, pin⟩ := t
  unfold tcells
  unfold tchk at *
  simp only at *
  cases hx : inb x with
  | false =>
    rw [if_pos (by rintro ⟨h, _⟩; cases h)]
    rcases inb_no hx with k | ⟨k, k2⟩
    · exact bk_xa k w
    · exact bk_xb k k2 w
  | true =>
  have ⟨x1, x2⟩ := inb_iff.1 hx
  cases hy : inb y with
  | false =>
    rw [if_pos (by rintro ⟨_, h, _⟩; cases h)]
    rcases inb_no hy with k | ⟨k, k2⟩
    · exact bk_ya x1 x2 k w
    · exact bk_yb x1 x2 k k2 w
  | true =>
  have ⟨y1, y2⟩ := inb_iff.1 hy
  cases hl : szb lo with
  | false =>
    rw [if_pos (by rintro ⟨_, _, h, _⟩; cases h)]
    rcases szb_no hl with k | ⟨k, k2⟩
    · exact bk_la x1 x2 y1 y2 k w
    · exact bk_lb x1 x2 y1 y2 k k2 w
  | true =>
  have ⟨l1, l2⟩ := szb_iff.1 hl
  cases hh : szb hi with
  | false =>
    rw [if_pos (by rintro ⟨_, _, _, h⟩; cases h)]
    rcases szb_no hh with k | ⟨k, k2⟩
    · exact bk_ha x1 x2 y1 y2 l1 l2 k w
    · exact bk_hb x1 x2 y1 y2 l1 l2 k (by omega) w
  | true =>
  have ⟨h1, h2⟩ := szb_iff.1 hh
  rw [hx, hy, hl, hh] at hok
  rw [if_neg (fun k => k ⟨rfl, rfl, rfl, rfl⟩)] at hok ⊢
  by_cases c1 : hi < lo
  · rw [if_pos c1]; exact bk_or x1 x2 y1 y2 l1 l2 h1 h2 c1 w
  rw [if_neg c1] at hok ⊢
  have c1 : lo ≤ hi := by omega
  by_cases c2 : tol < 0
  · rw [if_pos (.inl c2)]; exact bk_ta x1 x2 y1 y2 l1 l2 h1 h2 c1 c2 w
  have c2 : 0 ≤ tol := by omega
  by_cases c3 : 100000 < tol
  · rw [if_pos (.inr (.inl c3))]; exact bk_tb x1 x2 y1 y2 l1 l2 h1 h2 c1 c2 c3 w
  have c3 : tol ≤ 100000 := by omega
  cases pin with
  | true =>
    rw [if_neg (by rintro (h | h | ⟨h, _⟩) <;> first | omega | cases h)] at hok ⊢
    by_cases c5 : mat < 0
    · rw [if_pos (.inl c5)]; exact bk_mat1 x1 x2 y1 y2 l1 l2 h1 h2 c1 c2 c3 c5 w
    · by_cases c6 : 2 < mat
      · rw [if_pos (.inr c6)]; exact bk_mat2 x1 x2 y1 y2 l1 l2 h1 h2 c1 c2 c3 (by omega) c6 w
      · rw [if_neg (by omega)] at hok; exact (hok rfl).elim
  | false =>
    by_cases c4 : lo ≤ tol
    · rw [if_pos (.inr (.inr ⟨rfl, c4⟩))]; exact bk_tc x1 x2 y1 y2 l1 l2 h1 h2 c1 c2 c3 c4 w
    have c4 : tol < lo := by omega
    rw [if_neg (by rintro (h | h | ⟨_, h⟩) <;> omega)] at hok ⊢
    by_cases c5 : mat < 0
    · rw [if_pos (.inl c5)]; exact bk_maf1 x1 x2 y1 y2 l1 l2 h1 h2 c1 c2 c3 c4 c5 w
    · by_cases c6 : 2 < mat
      · rw [if_pos (.inr c6)]; exact bk_maf2 x1 x2 y1 y2 l1 l2 h1 h2 c1 c2 c3 c4 (by omega) c6 w
      · rw [if_neg (by omega)] at hok; exact (hok rfl).elim

set_option maxRecDepth 100000 in
set_option maxHeartbeats 1000000 in
theorem bg_xa {x y n : Int} (_h0 : x < -100000) (w : World) : Calls Tryz.prog 73 #[.agg #[.int .i64 x, .int .i64 y, .int .i64 n]] w (RB (.int .i64 2) w) := by
  go_enter Tryz.func73, Tryz.ntmps73
  go_wp2
  go_ret
  exact ⟨rfl, (Below.refl _ w).alloc (Nat.le_refl _) _⟩
set_option maxRecDepth 100000 in
set_option maxHeartbeats 1000000 in
theorem bg_xb {x y n : Int} (_h0 : -100000 ≤ x) (_h1 : 100000 < x) (w : World) : Calls Tryz.prog 73 #[.agg #[.int .i64 x, .int .i64 y, .int .i64 n]] w (RB (.int .i64 2) w) := by
  go_enter Tryz.func73, Tryz.ntmps73
  go_wp2
  go_ret
  exact ⟨rfl, (Below.refl _ w).alloc (Nat.le_refl _) _⟩
set_option maxRecDepth 100000 in
set_option maxHeartbeats 1000000 in
theorem bg_ya {x y n : Int} (_h0 : -100000 ≤ x) (_h1 : x ≤ 100000) (_h2 : y < -100000) (w : World) : Calls Tryz.prog 73 #[.agg #[.int .i64 x, .int .i64 y, .int .i64 n]] w (RB (.int .i64 2) w) := by
  go_enter Tryz.func73, Tryz.ntmps73
  go_wp2
  go_ret
  exact ⟨rfl, (Below.refl _ w).alloc (Nat.le_refl _) _⟩
set_option maxRecDepth 100000 in
set_option maxHeartbeats 1000000 in
theorem bg_yb {x y n : Int} (_h0 : -100000 ≤ x) (_h1 : x ≤ 100000) (_h2 : -100000 ≤ y) (_h3 : 100000 < y) (w : World) : Calls Tryz.prog 73 #[.agg #[.int .i64 x, .int .i64 y, .int .i64 n]] w (RB (.int .i64 2) w) := by
  go_enter Tryz.func73, Tryz.ntmps73
  go_wp2
  go_ret
  exact ⟨rfl, (Below.refl _ w).alloc (Nat.le_refl _) _⟩
set_option maxRecDepth 100000 in
set_option maxHeartbeats 1000000 in
theorem bg_na {x y n : Int} (_h0 : -100000 ≤ x) (_h1 : x ≤ 100000) (_h2 : -100000 ≤ y) (_h3 : y ≤ 100000) (_h4 : n < 1) (w : World) : Calls Tryz.prog 73 #[.agg #[.int .i64 x, .int .i64 y, .int .i64 n]] w (RB (.int .i64 2) w) := by
  go_enter Tryz.func73, Tryz.ntmps73
  go_wp2
  go_ret
  exact ⟨rfl, (Below.refl _ w).alloc (Nat.le_refl _) _⟩
set_option maxRecDepth 100000 in
set_option maxHeartbeats 1000000 in
theorem bg_nb {x y n : Int} (_h0 : -100000 ≤ x) (_h1 : x ≤ 100000) (_h2 : -100000 ≤ y) (_h3 : y ≤ 100000) (_h4 : 1 ≤ n) (_h5 : ¬ n ≤ 100000) (w : World) : Calls Tryz.prog 73 #[.agg #[.int .i64 x, .int .i64 y, .int .i64 n]] w (RB (.int .i64 2) w) := by
  go_enter Tryz.func73, Tryz.ntmps73
  go_wp2
  go_ret
  exact ⟨rfl, (Below.refl _ w).alloc (Nat.le_refl _) _⟩

theorem bgchk_c (c : Ci) (w : World) : Calls Tryz.prog 73 #[.agg (ccells c)] w (RB (.int .i64 (rchk c)) w) := by
  by_cases hok : rchk c = 0
  · rw [hok]; exact bring_c ((rchk_iff c).1 hok) w
  obtain ⟨x, y, n⟩ := c
  unfold ccells
  unfold rchk at *
  simp only at *
  have hno : ¬ (inb x = true ∧ inb y = true ∧ szb n = true) := fun k => by rw [if_pos k] at hok; exact hok rfl
  rw [if_neg hno]
  cases hx : inb x with
  | false =>
    rcases inb_no hx with k | ⟨k, k2⟩
    · exact bg_xa k w
    · exact bg_xb k k2 w
  | true =>
  have ⟨x1, x2⟩ := inb_iff.1 hx
  cases hy : inb y with
  | false =>
    rcases inb_no hy with k | ⟨k, k2⟩
    · exact bg_ya x1 x2 k w
    · exact bg_yb x1 x2 k k2 w
  | true =>
  have ⟨y1, y2⟩ := inb_iff.1 hy
  cases hl : szb n with
  | false =>
    rcases szb_no hl with k | ⟨k, k2⟩
    · exact bg_na x1 x2 y1 y2 k w
    · exact bg_nb x1 x2 y1 y2 k (by omega) w
  | true => exact (hno ⟨hx, hy, hl⟩).elim
end Go.Proofs.YtdknneofiefieaaGreatDoor

namespace Go.Proofs.YtdknneofiefieaaGreatDoor
open Go.RowKit Go.Lib Rt Geo Sh

set_option maxRecDepth 100000 in
set_option maxHeartbeats 1000000 in
theorem bplchk_c {ts : List Tg} {cs : List Ci} {p p' : Option Addr} {cp cp' : Nat} (w : World) (hT : TL w p ts) (hC : CL w p' cs) :
    Calls Tryz.prog 43 #[.slice p ts.length cp, .slice p' cs.length cp'] w (RB (.int .i64 (pchk ts cs)) w) := by
  by_cases h16 : 16 < ts.length
  · have E : pchk ts cs = 5 := by unfold pchk; rw [if_pos h16]
    rw [E]
    have h16i : (16 : Int) < (ts.length : Int) := by omega
    clear hT hC
    go_enter Tryz.func43, Tryz.ntmps43
    go_wp2_with fail
    go_ret
    exact ⟨rfl, Below.refl _ _⟩
  · have h16i : (ts.length : Int) ≤ 16 := by omega
    have HE : fst0 tchk ts ≠ 0 → pchk ts cs = fst0 tchk ts := by intro h; unfold pchk; rw [if_neg h16, if_pos h]
    have HF : fst0 tchk ts = 0 → cs.length ≠ ts.length → pchk ts cs = 8 := by intro h h'; unfold pchk; rw [if_neg h16, if_neg (fun k => k h), if_pos h']
    have HG : fst0 tchk ts = 0 → cs.length = ts.length → pchk ts cs = fst0 rchk cs := by intro h h'; unfold pchk; rw [if_neg h16, if_neg (fun k => k h), if_neg (fun k => k h')]
    generalize pchk ts cs = r at *
    have HE := Lib.hid HE
    have HF := Lib.hid HF
    have HG := Lib.hid HG
    have hT := Lib.hid hT
    have hC := Lib.hid hC
    go_enter Tryz.func43, Tryz.ntmps43
    go_wp2_with fail
    go_loopg [6, 7, 16] ts.length (fun m _ _ i wr => ∃ k : Nat, k + m = ts.length ∧ i = .int .i64 k ∧ Below w.heap.size w wr ∧ fst0 tchk ts = fst0 tchk (ts.drop k))
    case atStart => exact ⟨0, by omega, rfl, Below.refl _ _, rfl⟩
    case round =>
      obtain ⟨k, hmm, rfl, hB, hf⟩ := hrel
      by_cases hlt : k < ts.length
      · obtain ⟨q, hq⟩ : ∃ q, ts[k]? = some q := ⟨_, List.getElem?_eq_getElem hlt⟩
        have hlti : (k : Int) < (ts.length : Int) := by omega
        obtain ⟨b, o, hp, hA⟩ := hT.out.get k q hq
        obtain ⟨a0, a1, a2, a3, a4, a5, a6⟩ := hA.step hB
        have n1 := World.new_ne wr _ a0
        have KK := bchk_c q (wr.alloc (.cells (tcells q) 85))
        have bb : Below wr.heap.size wr (wr.alloc (.cells (tcells q) 85)) := (Below.refl _ wr).alloc (Nat.le_refl _) _
        rw [fst0_drop tchk hq] at hf
        unfold tcells at KK bb
        by_cases hz : tchk q = 0
        · rw [if_pos hz] at hf
          rw [hz] at KK
          have HM := Lib.hid hmm
          have HH := Lib.hid hf
          clear hmm hf hz hA hq
          subst hp
          go_wp2_with fail
          refine KK.mono ?_
          rintro e w1 ⟨rfl, b1⟩
          go_wp2_with fail
          go_roundg (gk - 1)
          case measure => have := HM.out; omega
          case rel => exact ⟨k + 1, by have := HM.out; omega, by go_num, Bl.trans hB (Bl.trans bb b1), HH.out⟩
        · rw [if_neg hz] at hf
          generalize tchk q = z at *
          have hr : r = z := by rw [HE.out (by rw [hf]; exact hz), hf]
          clear hmm hf hA hq
          subst hp
          subst hr
          go_wp2_with fail
          refine KK.mono ?_
          rintro e w1 ⟨rfl, b1⟩
          go_wp2_with fail
          go_ret
          exact ⟨rfl, Bl.trans hB (Bl.trans bb b1)⟩
      · have hk : k = ts.length := by omega
        have hf0 : fst0 tchk ts = 0 := by rw [hf, hk, List.drop_length]; rfl
        have HE' := Lib.hid hf0
        clear hlt hmm hf hf0
        subst hk
        by_cases hl : cs.length = ts.length
        · have hli : (cs.length : Int) = (ts.length : Int) := by omega
          have hr := HG.out HE'.out hl
          have HR := Lib.hid hr
          have HL := Lib.hid hl
          clear hr hl
          go_wp2_with fail
          go_loopg [9, 10, 33] cs.length (fun m _ _ i wx => ∃ k : Nat, k + m = cs.length ∧ i = .int .i64 k ∧ Below w.heap.size w wx ∧ fst0 rchk cs = fst0 rchk (cs.drop k))
          case atStart => exact ⟨0, by omega, rfl, hB, rfl⟩
          case round =>
            obtain ⟨k, hmm, rfl, hB, hf⟩ := hrel
            by_cases hlt : k < cs.length
            · obtain ⟨q, hq⟩ : ∃ q, cs[k]? = some q := ⟨_, List.getElem?_eq_getElem hlt⟩
              have hlti : (k : Int) < (cs.length : Int) := by omega
              obtain ⟨b, o, hp, hA⟩ := hC.out.get k q hq
              obtain ⟨a0, a1, a2⟩ := hA.step hB
              have n1 := World.new_ne _ _ a0
              have KK := fun w => bgchk_c q w
              rw [fst0_drop rchk hq] at hf
              unfold ccells at KK
              by_cases hz : rchk q = 0
              · rw [if_pos hz] at hf
                rw [hz] at KK
                have HM := Lib.hid hmm
                have HH := Lib.hid hf
                clear hmm hf hz hA hq
                subst hp
                go_wp2_with fail
                refine (KK _).mono ?_
                rintro e w1 ⟨rfl, b1⟩
                go_wp2_with fail
                go_roundg (gk - 1)
                case measure => have := HM.out; omega
                case rel => exact ⟨k + 1, by have := HM.out; omega, by go_num, Bl.trans hB (Bl.trans ((Below.refl _ _).alloc (Nat.le_refl _) _) b1), HH.out⟩
              · rw [if_neg hz] at hf
                have hr : r = rchk q := by rw [HR.out, hf]
                generalize rchk q = z at *
                clear hmm hf hA hq
                subst hp
                subst hr
                go_wp2_with fail
                refine (KK _).mono ?_
                rintro e w1 ⟨rfl, b1⟩
                go_wp2_with fail
                go_ret
                exact ⟨rfl, Bl.trans hB (Bl.trans ((Below.refl _ _).alloc (Nat.le_refl _) _) b1)⟩
            · have hk : k = cs.length := by omega
              have hr : r = 0 := by rw [HR.out, hf, hk, List.drop_length]; rfl
              clear hlt hmm hf
              subst hk
              subst hr
              go_wp2_with fail
              go_ret
              exact ⟨rfl, hB⟩
        · have hli : ¬ (cs.length : Int) = (ts.length : Int) := by omega
          have hr := HF.out HE'.out hl
          subst hr
          go_wp2_with fail
          go_ret
          exact ⟨rfl, hB⟩
end Go.Proofs.YtdknneofiefieaaGreatDoor

namespace Go.Proofs.YtdknneofiefieaaGreatDoor
open Go.RowKit Go.Lib Rt Geo Sh

set_option maxRecDepth 100000 in
set_option maxHeartbeats 2000000 in
theorem bschk_c {ts : List Tg} {cs : List Ci} {p p' : Option Addr} {cp cp' : Nat} {play : Int} (w : World) (hT : TL w p ts) (hC : CL w p' cs) :
    Calls Tryz.prog 17 #[.agg (tkg p ts.length cp p' cs.length cp' play)] w (RB (.int .i64 (schk ts cs play)) w) := by
  unfold tkg
  obtain ⟨W, hW⟩ : ∃ W, w.alloc (.cells #[.slice p ts.length cp, .slice p' cs.length cp', .int .i64 play] 25) = W := ⟨_, rfl⟩
  have q1 : W.heap[w.heap.size]? = some (.cells #[.slice p ts.length cp, .slice p' cs.length cp', .int .i64 play] 25 (0, 0)) := hW ▸ heap_alloc_new w _
  have bW : Below w.heap.size w W := hW ▸ (Below.refl _ w).alloc (Nat.le_refl _) _
  have hT1 := hT.step bW
  have hC1 := hC.step bW
  have P := bplchk_c (cp := cp) (cp' := cp') W hT1 hC1
  have e0 : W.cell? ⟨w.heap.size, 0, none⟩ = some (.slice p ts.length cp) := cell_of_row W _ 0 _ _ _ q1
  have e1 : W.cell? ⟨w.heap.size, 1, none⟩ = some (.slice p' cs.length cp') := cell_of_row W _ 1 _ _ _ q1
  clear hT hC
  have hP : pchk ts cs = 0 → cs.length = ts.length ∧ ts.length ≤ 16 := fun h => by obtain ⟨a, b, _⟩ := (pchk_iff ts cs).1 h; exact ⟨b, a⟩
  have S1 : pchk ts cs ≠ 0 → schk ts cs play = pchk ts cs := fun h => by unfold schk; rw [if_pos h]
  have S2 : pchk ts cs = 0 → ts.length = 0 → schk ts cs play = 13 := fun h h' => by unfold schk; rw [if_neg (fun k => k h), if_pos (List.length_eq_zero_iff.1 h')]
  have S3 : pchk ts cs = 0 → ts.length ≠ 0 → wins ts cs = false → schk ts cs play = 14 := fun h h' h'' => by unfold schk; rw [if_neg (fun k => k h), if_neg (fun k => h' (by rw [k]; rfl)), if_pos h'']
  have S4 : pchk ts cs = 0 → ts.length ≠ 0 → wins ts cs = true → schk ts cs play = if play < -1 ∨ 100000 < play then 2 else 0 := fun h h' h'' => by unfold schk; rw [if_neg (fun k => k h), if_neg (fun k => h' (by rw [k]; rfl)), if_neg (by rw [h'']; decide)]
  generalize schk ts cs play = r at *
  by_cases hp : pchk ts cs = 0
  · obtain ⟨hl, h16⟩ := hP hp
    rw [hp] at P
    by_cases h0 : ts.length = 0
    · have hr := S2 hp h0
      obtain rfl : ts = [] := List.length_eq_zero_iff.1 h0
      obtain rfl : cs = [] := List.length_eq_zero_iff.1 (by rw [hl]; rfl)
      subst hr
      clear S1 S2 S3 S4 hP hT1 hC1 hl h0 hp h16
      simp only [List.length_nil] at *
      go_enter Tryz.func17, Tryz.ntmps17
      go_wp2_with fail
      clear hW
      refine P.mono ?_
      rintro e w1 ⟨rfl, b1⟩
      have e0 : w1.cell? ⟨w.heap.size, 0, none⟩ = some (.slice p 0 cp) := cell_of_row w1 _ 0 _ _ _ (blk_below q1 b1)
      go_wp2_with fail
      go_ret
      exact ⟨rfl, Bl.trans bW b1⟩
    · have h0i : ¬ (ts.length : Int) = 0 := by omega
      have S3 := Lib.hid (S3 hp h0)
      have S4 := Lib.hid (S4 hp h0)
      have hl16 : (ts.length : Int) ≤ 16 := by omega
      have hl1 : ((ts.length : Int) == 0) = false := by rw [beq_eq_false_iff_ne]; exact h0i
      have HL := Lib.hid hl
      clear S1 S2 hP hl hp
      go_enter Tryz.func17, Tryz.ntmps17
      go_wp2_with fail
      clear hW
      refine P.mono ?_
      rintro e w1 ⟨rfl, b1⟩
      have B1 := Bl.trans bW b1
      have q2 := blk_below q1 b1
      have hT2 := Lib.hid (hT1.step b1)
      have hC2 := Lib.hid (hC1.step b1)
      clear e0 e1 hT1 hC1 P q1
      have e0 : w1.cell? ⟨w.heap.size, 0, none⟩ = some (.slice p ts.length cp) := cell_of_row w1 _ 0 _ _ _ q2
      go_wp2_with fail
      clear e0
      go_loopg [4, 5, 6, 22] ts.length (fun m _ _ _ i wr => ∃ k : Nat, k + m = ts.length ∧ i = .int .i64 k ∧ Below w1.heap.size w1 wr ∧ wins ts cs = wins (ts.drop k) (cs.drop k))
      case atStart => exact ⟨0, by omega, rfl, Below.refl _ _, rfl⟩
      case round =>
        obtain ⟨k, hm, rfl, hB, hF⟩ := hrel
        have q3 := blk_below q2 hB
        have e1 : wr.cell? ⟨w.heap.size, 1, none⟩ = some (.slice p' cs.length cp') := cell_of_row wr _ 1 _ _ _ q3
        have e2 : wr.cell? ⟨w.heap.size, 2, none⟩ = some (.int .i64 play) := cell_of_row wr _ 2 _ _ _ q3
        by_cases hlt : k < ts.length
        · have hlti : (k : Int) < (ts.length : Int) := by omega
          have hltc : (k : Int) < (cs.length : Int) := by have := HL.out; omega
          obtain ⟨q, hq⟩ : ∃ q, ts[k]? = some q := ⟨_, List.getElem?_eq_getElem hlt⟩
          obtain ⟨c, hc⟩ : ∃ c, cs[k]? = some c := ⟨_, List.getElem?_eq_getElem (by have := HL.out; omega)⟩
          obtain ⟨b, o, hpp, hA⟩ := hT2.out.get k q hq
          obtain ⟨b', o', hpp', hA'⟩ := hC2.out.get k c hc
          obtain ⟨a0, a1, a2, a3, a4, a5, a6⟩ := hA.step hB
          have bb : Below wr.heap.size wr (wr.alloc (.cells (tcells q) 85)) := (Below.refl _ wr).alloc (Nat.le_refl _) _
          have q5 := heap_alloc_new wr (.cells (tcells q) 85)
          unfold tcells at bb q5
          obtain ⟨X, hX⟩ : ∃ X, wr.alloc (.cells #[.int .i64 q.x, .int .i64 q.y, .int .i64 q.lo, .int .i64 q.hi, .int .i64 q.tol, .int .i64 q.mat, .bool q.pin] 85) = X := ⟨_, rfl⟩
          rw [hX] at bb q5
          obtain ⟨d0, d1, d2⟩ := (hA'.step hB).step bb
          have q4 := blk_below q3 bb
          have e1 : X.cell? ⟨w.heap.size, 1, none⟩ = some (.slice p' cs.length cp') := cell_of_row X _ 1 _ _ _ q4
          have f2 : X.cell? ⟨wr.heap.size, 2, none⟩ = some (.int .i64 q.lo) := cell_of_row X _ 2 _ _ _ q5
          have f3 : X.cell? ⟨wr.heap.size, 3, none⟩ = some (.int .i64 q.hi) := cell_of_row X _ 3 _ _ _ q5
          rw [wins_drop hq hc] at hF
          have HM := Lib.hid hm
          subst hpp
          subst hpp'
          clear hm hA hA' hq hc q2 q3 q4 q5 e2
          by_cases k1 : c.n < q.lo
          · have hr : r = 14 := S3.out (by rw [hF]; unfold winb; rw [decide_eq_false (by omega)]; rfl)
            subst hr
            clear hF
            go_wp2_with fail
            go_ret
            exact ⟨rfl, Bl.trans B1 (Bl.trans hB bb)⟩
          · by_cases k2 : q.hi < c.n
            · have hr : r = 14 := S3.out (by rw [hF]; unfold winb; rw [decide_eq_false (p := c.n ≤ q.hi) (by omega), Bool.and_false, Bool.false_and])
              subst hr
              clear hF
              go_wp2_with fail
              go_ret
              exact ⟨rfl, Bl.trans B1 (Bl.trans hB bb)⟩
            · have k1 : q.lo ≤ c.n := by omega
              have k2 : c.n ≤ q.hi := by omega
              have hw : winb q c = true := by unfold winb; rw [decide_eq_true k1, decide_eq_true k2]; rfl
              rw [hw, Bool.true_and] at hF
              have HF := Lib.hid hF
              clear hF
              go_wp2_with fail
              go_roundg (gk - 1)
              case measure => have := HM.out; omega
              case rel => exact ⟨k + 1, by have := HM.out; omega, by go_num, Bl.trans hB bb, HF.out⟩
        · have hk : k = ts.length := by omega
          have hr := S4.out (by rw [hF, hk, List.drop_length]; rfl)
          clear hlt hm hF
          subst hk
          by_cases c1 : play < -1
          · rw [if_pos (.inl c1)] at hr
            subst hr
            go_wp2_with fail
            go_ret
            exact ⟨rfl, Bl.trans B1 hB⟩
          · by_cases c2 : 100000 < play
            · rw [if_pos (.inr c2)] at hr
              subst hr
              go_wp2_with fail
              go_ret
              exact ⟨rfl, Bl.trans B1 hB⟩
            · rw [if_neg (by omega)] at hr
              subst hr
              have c1 : -1 ≤ play := by omega
              have c2 : play ≤ 100000 := by omega
              go_wp2_with fail
              go_ret
              exact ⟨rfl, Bl.trans B1 hB⟩
  · have hr := S1 hp
    have hz : (pchk ts cs != 0) = true := bne_iff_ne.2 hp
    have hz2 : ¬ pchk ts cs = 0 := hp
    clear S1 S2 S3 S4 hP hT1 hC1 hp
    rw [← hr] at P hz hz2
    clear hr
    go_enter Tryz.func17, Tryz.ntmps17
    go_wp2_with fail
    clear hW
    refine P.mono ?_
    rintro e w1 ⟨rfl, b1⟩
    go_wp2_with fail
    go_ret
    exact ⟨rfl, Bl.trans bW b1⟩
end Go.Proofs.YtdknneofiefieaaGreatDoor
