import Derived.Test.YtdknneofiefieaaGreatDoorGl
import Derived.Test.YtdknneofiefieaaGreatDoorGa

namespace Go.Proofs.YtdknneofiefieaaGreatDoor
open Go.RowKit Go.Lib Dec Wd Rt

theorem prod_two (a b : Int) : prod [a, b] = a * b := by unfold prod; simp
theorem smul2 {a b : Int} (ha : Sz a) (hb : Sz b) (hs : Sz (a * b)) (t : TypeId) (w0 : World) (p : Nat) (w : World) (h : St w0 p w) :
    Calls Tryz.prog 198 #[.pointer (some ⟨p, 0, none⟩), .slice (some ⟨w.heap.size, 0, none⟩) 2 2] (w.alloc (.cells #[.string (tx a), .string (tx b)] t (0, 0))) (SumR w0 p (.string (tx (a * b))) w) :=
  (smul_c w.heap.size 2 [a, b] (pair_all ha hb) (by
      intro k
      match k with
      | 0 => exact sz_one
      | 1 => have : prod ([a, b].take 1) = a := by unfold prod; simp
             rw [this]; exact ha
      | (k + 2) => have : prod ([a, b].take (k + 2)) = a * b := by rw [List.take_of_length_le (by simp), prod_two]
                   rw [this]; exact hs) (Nat.le_of_ble_eq_true rfl) w0 p _ (h.below (pair_below w _)) (pair_cells w _ _ t (fun z => .string (tx z)) a b rfl rfl) (pair_lt w _) (Nat.ne_of_gt h.lt)).mono fun e w' => by
    rintro ⟨rfl, s1, c1⟩
    exact ⟨by rw [prod_two], s1, (Ch.of (pair_below w _)).trans c1⟩
end Go.Proofs.YtdknneofiefieaaGreatDoor

namespace Go.Proofs.YtdknneofiefieaaGreatDoor
open Go.RowKit Go.Lib Dec Wd Rt

set_option maxRecDepth 100000 in
set_option maxHeartbeats 1000000 in
theorem terms_Add {n p m q : Int} (hn : Sz n) (hp : Sz p) (hm : Sz m) (hq : Sz q) (h1 : Sz (n * q)) (h2 : Sz (m * p)) (h3 : Sz (p * q)) (h4 : Sz (n * q + m * p)) (w0 : World) (s : Nat) (w : World) (h : St w0 s w) :
    Calls Tryz.prog 228 #[.pointer (some ⟨s, 0, none⟩), .string (tx n), .string (tx p), .string (tx m), .string (tx q)] w (SumR w0 s (.tuple #[.string (tx (n * q + m * p)), .string (tx (p * q))]) w) := by
  have M1 := fun w h => smul2 hn hq h1 96 w0 s w h
  have M2 := fun w h => smul2 hm hp h2 96 w0 s w h
  have M3 := fun w h => smul2 hp hq h3 96 w0 s w h
  have A1 := fun w h => sadd_c h1 h2 h4 w0 s w h
  clear hn hp hm hq h1 h2 h3 h4
  go_enter Tryz.func228, Tryz.ntmps228
  go_wp2_with fail
  refine (M1 _ h).mono ?_
  rintro e w1 ⟨rfl, s1, c1⟩
  go_wp2_with fail
  refine (M2 _ s1).mono ?_
  rintro e w2 ⟨rfl, s2, c2⟩
  go_wp2_with fail
  refine (A1 _ s2).mono ?_
  rintro e w3 ⟨rfl, s3, c3⟩
  go_wp2_with fail
  refine (M3 _ s3).mono ?_
  rintro e w4 ⟨rfl, s4, c4⟩
  go_wp2_with fail
  go_ret2
  exact ⟨rfl, s4, ((c1.trans c2).trans c3).trans c4⟩

set_option maxRecDepth 100000 in
set_option maxHeartbeats 1000000 in
theorem terms_Sub {n p m q : Int} (hn : Sz n) (hp : Sz p) (hm : Sz m) (hq : Sz q) (h1 : Sz (n * q)) (h2 : Sz (m * p)) (h3 : Sz (p * q)) (h4 : Sz (n * q - m * p)) (w0 : World) (s : Nat) (w : World) (h : St w0 s w) :
    Calls Tryz.prog 196 #[.pointer (some ⟨s, 0, none⟩), .string (tx n), .string (tx p), .string (tx m), .string (tx q)] w (SumR w0 s (.tuple #[.string (tx (n * q - m * p)), .string (tx (p * q))]) w) := by
  have M1 := fun w h => smul2 hn hq h1 96 w0 s w h
  have M2 := fun w h => smul2 hm hp h2 96 w0 s w h
  have M3 := fun w h => smul2 hp hq h3 96 w0 s w h
  have A1 := fun w h => ssub_c h1 h2 h4 w0 s w h
  clear hn hp hm hq h1 h2 h3 h4
  go_enter Tryz.func196, Tryz.ntmps196
  go_wp2_with fail
  refine (M1 _ h).mono ?_
  rintro e w1 ⟨rfl, s1, c1⟩
  go_wp2_with fail
  refine (M2 _ s1).mono ?_
  rintro e w2 ⟨rfl, s2, c2⟩
  go_wp2_with fail
  refine (A1 _ s2).mono ?_
  rintro e w3 ⟨rfl, s3, c3⟩
  go_wp2_with fail
  refine (M3 _ s3).mono ?_
  rintro e w4 ⟨rfl, s4, c4⟩
  go_wp2_with fail
  go_ret2
  exact ⟨rfl, s4, ((c1.trans c2).trans c3).trans c4⟩

set_option maxRecDepth 100000 in
set_option maxHeartbeats 1000000 in
theorem terms_Mul {n p m q : Int} (hn : Sz n) (hp : Sz p) (hm : Sz m) (hq : Sz q) (h1 : Sz (n * m)) (h2 : Sz (p * q)) (w0 : World) (s : Nat) (w : World) (h : St w0 s w) :
    Calls Tryz.prog 229 #[.pointer (some ⟨s, 0, none⟩), .string (tx n), .string (tx p), .string (tx m), .string (tx q)] w (SumR w0 s (.tuple #[.string (tx (n * m)), .string (tx (p * q))]) w) := by
  have M1 := fun w h => smul2 hn hm h1 96 w0 s w h
  have M2 := fun w h => smul2 hp hq h2 96 w0 s w h
  clear hn hp hm hq h1 h2
  go_enter Tryz.func229, Tryz.ntmps229
  go_wp2_with fail
  refine (M1 _ h).mono ?_
  rintro e w1 ⟨rfl, s1, c1⟩
  go_wp2_with fail
  refine (M2 _ s1).mono ?_
  rintro e w2 ⟨rfl, s2, c2⟩
  go_wp2_with fail
  go_ret2
  exact ⟨rfl, s2, c1.trans c2⟩

set_option maxRecDepth 100000 in
set_option maxHeartbeats 1000000 in
theorem terms_Div {n p m q : Int} (hn : Sz n) (hp : Sz p) (hm : Sz m) (hq : Sz q) (h1 : Sz (n * q)) (h2 : Sz (p * m)) (w0 : World) (s : Nat) (w : World) (h : St w0 s w) :
    Calls Tryz.prog 203 #[.pointer (some ⟨s, 0, none⟩), .string (tx n), .string (tx p), .string (tx m), .string (tx q)] w (SumR w0 s (.tuple #[.string (tx (n * q)), .string (tx (p * m))]) w) := by
  have M1 := fun w h => smul2 hn hq h1 96 w0 s w h
  have M2 := fun w h => smul2 hp hm h2 96 w0 s w h
  clear hn hp hm hq h1 h2
  go_enter Tryz.func203, Tryz.ntmps203
  go_wp2_with fail
  refine (M1 _ h).mono ?_
  rintro e w1 ⟨rfl, s1, c1⟩
  go_wp2_with fail
  refine (M2 _ s1).mono ?_
  rintro e w2 ⟨rfl, s2, c2⟩
  go_wp2_with fail
  go_ret2
  exact ⟨rfl, s2, c1.trans c2⟩

end Go.Proofs.YtdknneofiefieaaGreatDoor

namespace Go.Proofs.YtdknneofiefieaaGreatDoor
open Go.RowKit Go.Lib Dec Wd Rt

theorem pair_cells' {α : Type} (w : World) (t : TypeId) (f : α → Value) (x y : α) : ∀ j z, [x, y][j]? = some z → (w.alloc (.cells #[f x, f y] t (0, 0))).cell? ⟨w.heap.size, j, none⟩ = some (f z) := by
  intro j z h
  have e : (w.alloc (.cells #[f x, f y] t (0, 0))).cell? ⟨w.heap.size, j, none⟩ = #[f x, f y][j]? := by
    unfold World.cell?
    have : (w.alloc (.cells #[f x, f y] t (0, 0))).heap[w.heap.size]? = some (.cells #[f x, f y] t (0, 0)) := heap_alloc_new w _
    simp only [this]; rfl
  rw [e]
  match j, h with
  | 0, h => simp at h; subst h; rfl
  | 1, h => simp at h; subst h; rfl
theorem checks_pair {a b : Rat} (ha : Sq a) (hb : Sq b) (t : TypeId) (w : World) (g : Gd w) :
    Calls Tryz.prog 202 #[.slice (some ⟨w.heap.size, 0, none⟩) 2 2] (w.alloc (.cells #[.string (rt a), .string (rt b)] t (0, 0))) fun e w' => e = .returned (.int .i64 0) ∧ Below w.heap.size w w' :=
  (checks_loop w.heap.size 2 [a, b] (fun q hq => by
      rcases List.mem_cons.1 hq with rfl | hq
      · exact ha
      · rw [List.mem_singleton] at hq; subst hq; exact hb) (Nat.le_of_ble_eq_true rfl) _ (g.alloc _) (pair_cells' w t (fun q => .string (rt q)) a b) (pair_lt w _)).mono fun e w' => by
    rintro ⟨rfl, hb⟩
    exact ⟨rfl, Bl.trans (pair_below w _) hb⟩
theorem St.new (w0 w : World) (g : Gd w0) (hb : Below w0.heap.size w0 w) : St w0 w.heap.size (w.alloc (.cells #[.int .i64 0] 242 (0, 0))) :=
  ⟨g, hb.alloc hb.size _, hb.size, heap_alloc_new w _⟩

set_option maxRecDepth 100000 in
set_option maxHeartbeats 2000000 in
theorem made_Add {a b : Rat} (ha : Sq a) (hb : Sq b) {num den : Int} (h1 : Sz num) (h2 : Sz den) (h0 : den ≠ 0)
    (HT : ∀ w0 s w, St w0 s w → Calls Tryz.prog 228 #[.pointer (some ⟨s, 0, none⟩), .string (tx a.num), .string (tx a.den), .string (tx b.num), .string (tx b.den)] w (SumR w0 s (.tuple #[.string (tx num), .string (tx den)]) w))
    (w : World) (g : Gd w) :
    Calls Tryz.prog 195 #[.string (rt a), .string (rt b), .func (.func 228) #[] #[]] w fun e w' => e = .returned (.tuple #[.string (rt (Rat.divInt num den)), .int .i64 0]) ∧ Below w.heap.size w w' := by
  have HA := checks_pair ha hb 39 w g
  have C1 := cut_c ha
  have C2 := cut_c hb
  have hz : ((tx den).toList == [48]) = false := by rw [tx_zero]; simpa using h0
  have HL := fun w0 p w h => lowest_c h1 h2 h0 w0 p w h
  clear ha hb h1 h2 h0
  generalize decide (a.den ≠ 1) = q1 at *
  generalize decide (b.den ≠ 1) = q2 at *
  generalize rt (Rat.divInt num den) = res at *
  go_enter Tryz.func195, Tryz.ntmps195
  go_wp2_with fail
  refine HA.mono ?_
  rintro e w1 ⟨rfl, hb1⟩
  go_wp2_with fail
  refine (C1 _ (g.below hb1)).mono ?_
  rintro e w2 ⟨rfl, k1, rfl⟩
  go_wp2_with fail
  refine (C2 _ ((g.below hb1).drewN _)).mono ?_
  rintro e w3 ⟨rfl, k2, rfl⟩
  have B3 := below_drewN hb1 (k1 + k2)
  have hS : St w w1.heap.size ((w1.drewN (k1 + k2)).alloc (.cells #[.int .i64 0] 242 (0, 0))) := St.new w (w1.drewN (k1 + k2)) g B3
  go_wp2_with fail
  refine (HT w _ _ hS).mono ?_
  rintro e w4 ⟨rfl, s4, c4⟩
  have d4 := s4.cell
  go_wp2_with fail
  refine (HL w _ _ s4).mono ?_
  rintro e w5 ⟨rfl, s5, c5⟩
  have d5 := s5.cell
  go_wp2_with fail
  go_quiet (fail)
  go_wp2_with fail
  go_ret2
  exact ⟨rfl, below_drewN s5.b _⟩

set_option maxRecDepth 100000 in
set_option maxHeartbeats 2000000 in
theorem made_Sub {a b : Rat} (ha : Sq a) (hb : Sq b) {num den : Int} (h1 : Sz num) (h2 : Sz den) (h0 : den ≠ 0)
    (HT : ∀ w0 s w, St w0 s w → Calls Tryz.prog 196 #[.pointer (some ⟨s, 0, none⟩), .string (tx a.num), .string (tx a.den), .string (tx b.num), .string (tx b.den)] w (SumR w0 s (.tuple #[.string (tx num), .string (tx den)]) w))
    (w : World) (g : Gd w) :
    Calls Tryz.prog 195 #[.string (rt a), .string (rt b), .func (.func 196) #[] #[]] w fun e w' => e = .returned (.tuple #[.string (rt (Rat.divInt num den)), .int .i64 0]) ∧ Below w.heap.size w w' := by
  have HA := checks_pair ha hb 39 w g
  have C1 := cut_c ha
  have C2 := cut_c hb
  have hz : ((tx den).toList == [48]) = false := by rw [tx_zero]; simpa using h0
  have HL := fun w0 p w h => lowest_c h1 h2 h0 w0 p w h
  clear ha hb h1 h2 h0
  generalize decide (a.den ≠ 1) = q1 at *
  generalize decide (b.den ≠ 1) = q2 at *
  generalize rt (Rat.divInt num den) = res at *
  go_enter Tryz.func195, Tryz.ntmps195
  go_wp2_with fail
  refine HA.mono ?_
  rintro e w1 ⟨rfl, hb1⟩
  go_wp2_with fail
  refine (C1 _ (g.below hb1)).mono ?_
  rintro e w2 ⟨rfl, k1, rfl⟩
  go_wp2_with fail
  refine (C2 _ ((g.below hb1).drewN _)).mono ?_
  rintro e w3 ⟨rfl, k2, rfl⟩
  have B3 := below_drewN hb1 (k1 + k2)
  have hS : St w w1.heap.size ((w1.drewN (k1 + k2)).alloc (.cells #[.int .i64 0] 242 (0, 0))) := St.new w (w1.drewN (k1 + k2)) g B3
  go_wp2_with fail
  refine (HT w _ _ hS).mono ?_
  rintro e w4 ⟨rfl, s4, c4⟩
  have d4 := s4.cell
  go_wp2_with fail
  refine (HL w _ _ s4).mono ?_
  rintro e w5 ⟨rfl, s5, c5⟩
  have d5 := s5.cell
  go_wp2_with fail
  go_quiet (fail)
  go_wp2_with fail
  go_ret2
  exact ⟨rfl, below_drewN s5.b _⟩

set_option maxRecDepth 100000 in
set_option maxHeartbeats 2000000 in
theorem made_Mul {a b : Rat} (ha : Sq a) (hb : Sq b) {num den : Int} (h1 : Sz num) (h2 : Sz den) (h0 : den ≠ 0)
    (HT : ∀ w0 s w, St w0 s w → Calls Tryz.prog 229 #[.pointer (some ⟨s, 0, none⟩), .string (tx a.num), .string (tx a.den), .string (tx b.num), .string (tx b.den)] w (SumR w0 s (.tuple #[.string (tx num), .string (tx den)]) w))
    (w : World) (g : Gd w) :
    Calls Tryz.prog 195 #[.string (rt a), .string (rt b), .func (.func 229) #[] #[]] w fun e w' => e = .returned (.tuple #[.string (rt (Rat.divInt num den)), .int .i64 0]) ∧ Below w.heap.size w w' := by
  have HA := checks_pair ha hb 39 w g
  have C1 := cut_c ha
  have C2 := cut_c hb
  have hz : ((tx den).toList == [48]) = false := by rw [tx_zero]; simpa using h0
  have HL := fun w0 p w h => lowest_c h1 h2 h0 w0 p w h
  clear ha hb h1 h2 h0
  generalize decide (a.den ≠ 1) = q1 at *
  generalize decide (b.den ≠ 1) = q2 at *
  generalize rt (Rat.divInt num den) = res at *
  go_enter Tryz.func195, Tryz.ntmps195
  go_wp2_with fail
  refine HA.mono ?_
  rintro e w1 ⟨rfl, hb1⟩
  go_wp2_with fail
  refine (C1 _ (g.below hb1)).mono ?_
  rintro e w2 ⟨rfl, k1, rfl⟩
  go_wp2_with fail
  refine (C2 _ ((g.below hb1).drewN _)).mono ?_
  rintro e w3 ⟨rfl, k2, rfl⟩
  have B3 := below_drewN hb1 (k1 + k2)
  have hS : St w w1.heap.size ((w1.drewN (k1 + k2)).alloc (.cells #[.int .i64 0] 242 (0, 0))) := St.new w (w1.drewN (k1 + k2)) g B3
  go_wp2_with fail
  refine (HT w _ _ hS).mono ?_
  rintro e w4 ⟨rfl, s4, c4⟩
  have d4 := s4.cell
  go_wp2_with fail
  refine (HL w _ _ s4).mono ?_
  rintro e w5 ⟨rfl, s5, c5⟩
  have d5 := s5.cell
  go_wp2_with fail
  go_quiet (fail)
  go_wp2_with fail
  go_ret2
  exact ⟨rfl, below_drewN s5.b _⟩

set_option maxRecDepth 100000 in
set_option maxHeartbeats 2000000 in
theorem made_Div {a b : Rat} (ha : Sq a) (hb : Sq b) {num den : Int} (h1 : Sz num) (h2 : Sz den) (h0 : den ≠ 0)
    (HT : ∀ w0 s w, St w0 s w → Calls Tryz.prog 203 #[.pointer (some ⟨s, 0, none⟩), .string (tx a.num), .string (tx a.den), .string (tx b.num), .string (tx b.den)] w (SumR w0 s (.tuple #[.string (tx num), .string (tx den)]) w))
    (w : World) (g : Gd w) :
    Calls Tryz.prog 195 #[.string (rt a), .string (rt b), .func (.func 203) #[] #[]] w fun e w' => e = .returned (.tuple #[.string (rt (Rat.divInt num den)), .int .i64 0]) ∧ Below w.heap.size w w' := by
  have HA := checks_pair ha hb 39 w g
  have C1 := cut_c ha
  have C2 := cut_c hb
  have hz : ((tx den).toList == [48]) = false := by rw [tx_zero]; simpa using h0
  have HL := fun w0 p w h => lowest_c h1 h2 h0 w0 p w h
  clear ha hb h1 h2 h0
  generalize decide (a.den ≠ 1) = q1 at *
  generalize decide (b.den ≠ 1) = q2 at *
  generalize rt (Rat.divInt num den) = res at *
  go_enter Tryz.func195, Tryz.ntmps195
  go_wp2_with fail
  refine HA.mono ?_
  rintro e w1 ⟨rfl, hb1⟩
  go_wp2_with fail
  refine (C1 _ (g.below hb1)).mono ?_
  rintro e w2 ⟨rfl, k1, rfl⟩
  go_wp2_with fail
  refine (C2 _ ((g.below hb1).drewN _)).mono ?_
  rintro e w3 ⟨rfl, k2, rfl⟩
  have B3 := below_drewN hb1 (k1 + k2)
  have hS : St w w1.heap.size ((w1.drewN (k1 + k2)).alloc (.cells #[.int .i64 0] 242 (0, 0))) := St.new w (w1.drewN (k1 + k2)) g B3
  go_wp2_with fail
  refine (HT w _ _ hS).mono ?_
  rintro e w4 ⟨rfl, s4, c4⟩
  have d4 := s4.cell
  go_wp2_with fail
  refine (HL w _ _ s4).mono ?_
  rintro e w5 ⟨rfl, s5, c5⟩
  have d5 := s5.cell
  go_wp2_with fail
  go_quiet (fail)
  go_wp2_with fail
  go_ret2
  exact ⟨rfl, below_drewN s5.b _⟩

end Go.Proofs.YtdknneofiefieaaGreatDoor

namespace Go.Proofs.YtdknneofiefieaaGreatDoor
open Go.RowKit Go.Lib Dec Wd Rt

theorem ten_le_ten {z : Int} {N M : Nat} (h : z.natAbs < 10 ^ N) (hN : N ≤ M) : z.natAbs < 10 ^ M := Nat.lt_of_lt_of_le h (Nat.pow_le_pow_right (by decide) hN)
theorem sz_of {z : Int} {N : Nat} (h : z.natAbs < 10 ^ N) (hN : N ≤ 1024) : Sz z := ⟨ten_le_ten (M := 1024) h hN⟩
theorem ten_mul {x y : Int} {M N : Nat} (hx : x.natAbs < 10 ^ M) (hy : y.natAbs < 10 ^ N) : (x * y).natAbs < 10 ^ (M + N) := by
  rw [Int.natAbs_mul, Nat.pow_add]
  exact Nat.mul_lt_mul_of_lt_of_le hx (Nat.le_of_lt hy) (Nat.pow_pos (by decide))
theorem ten_add {x y : Int} {N : Nat} (hx : x.natAbs < 10 ^ N) (hy : y.natAbs < 10 ^ N) : (x + y).natAbs < 10 ^ (N + 1) := by
  rw [Nat.pow_succ]; omega
theorem ten_sub {x y : Int} {N : Nat} (hx : x.natAbs < 10 ^ N) (hy : y.natAbs < 10 ^ N) : (x - y).natAbs < 10 ^ (N + 1) := by
  rw [Nat.pow_succ]; omega
theorem Sm.sq {N : Nat} {q : Rat} (h : Sm N q) (hN : N ≤ 1024) : Sq q := ⟨sz_of h.1 hN, sz_of (z := (q.den : Int)) h.2 hN⟩
theorem den_nz (a b : Rat) : ((a.den : Int) * b.den) ≠ 0 := Int.mul_ne_zero (by have := a.den_nz; omega) (by have := b.den_nz; omega)

set_option maxRecDepth 100000 in
set_option maxHeartbeats 1000000 in
theorem rAdd_c {N : Nat} {a b : Rat} (ha : Sm N a) (hb : Sm N b) (hN : N + N < 1024) (w : World) (g : Gd w) :
    Calls Tryz.prog 199 #[.string (rt a), .string (rt b)] w fun e w' => e = .returned (.tuple #[.string (rt (a + b)), .int .i64 0]) ∧ Below w.heap.size w w' := by
  have sa := Sm.sq ha (by omega)
  have sb := Sm.sq hb (by omega)
  have m1 := ten_mul ha.1 (y := (b.den : Int)) hb.2
  have m2 := ten_mul hb.1 (y := (a.den : Int)) ha.2
  have m3 := ten_mul (x := (a.den : Int)) (y := (b.den : Int)) ha.2 hb.2
  have z1 := sz_of m1 (by omega)
  have z2 := sz_of m2 (by omega)
  have z3 := sz_of m3 (by omega)
  have z4 := sz_of (ten_add m1 m2) (by omega)
  have HM := made_Add sa sb z4 z3 (den_nz a b) (fun w0 s w h => terms_Add sa.num sa.den sb.num sb.den z1 z2 z3 z4 w0 s w h) w g
  rw [← add_eq] at HM
  clear sa sb m1 m2 m3 z1 z2 z3 z4 ha hb
  go_enter Tryz.func199, Tryz.ntmps199
  go_wp2_with fail
  refine HM.mono ?_
  rintro e w1 ⟨rfl, hb1⟩
  go_wp2_with fail
  go_ret2
  exact ⟨rfl, hb1⟩

set_option maxRecDepth 100000 in
set_option maxHeartbeats 1000000 in
theorem rSub_c {N : Nat} {a b : Rat} (ha : Sm N a) (hb : Sm N b) (hN : N + N < 1024) (w : World) (g : Gd w) :
    Calls Tryz.prog 167 #[.string (rt a), .string (rt b)] w fun e w' => e = .returned (.tuple #[.string (rt (a - b)), .int .i64 0]) ∧ Below w.heap.size w w' := by
  have sa := Sm.sq ha (by omega)
  have sb := Sm.sq hb (by omega)
  have m1 := ten_mul ha.1 (y := (b.den : Int)) hb.2
  have m2 := ten_mul hb.1 (y := (a.den : Int)) ha.2
  have m3 := ten_mul (x := (a.den : Int)) (y := (b.den : Int)) ha.2 hb.2
  have z1 := sz_of m1 (by omega)
  have z2 := sz_of m2 (by omega)
  have z3 := sz_of m3 (by omega)
  have z4 := sz_of (ten_sub m1 m2) (by omega)
  have HM := made_Sub sa sb z4 z3 (den_nz a b) (fun w0 s w h => terms_Sub sa.num sa.den sb.num sb.den z1 z2 z3 z4 w0 s w h) w g
  rw [← sub_eq] at HM
  clear sa sb m1 m2 m3 z1 z2 z3 z4 ha hb
  go_enter Tryz.func167, Tryz.ntmps167
  go_wp2_with fail
  refine HM.mono ?_
  rintro e w1 ⟨rfl, hb1⟩
  go_wp2_with fail
  go_ret2
  exact ⟨rfl, hb1⟩

set_option maxRecDepth 100000 in
set_option maxHeartbeats 1000000 in
theorem rMul_c {N : Nat} {a b : Rat} (ha : Sm N a) (hb : Sm N b) (hN : N + N < 1024) (w : World) (g : Gd w) :
    Calls Tryz.prog 200 #[.string (rt a), .string (rt b)] w fun e w' => e = .returned (.tuple #[.string (rt (a * b)), .int .i64 0]) ∧ Below w.heap.size w w' := by
  have sa := Sm.sq ha (by omega)
  have sb := Sm.sq hb (by omega)
  have z1 := sz_of (ten_mul ha.1 hb.1) (by omega)
  have z3 := sz_of (ten_mul (x := (a.den : Int)) (y := (b.den : Int)) ha.2 hb.2) (by omega)
  have HM := made_Mul sa sb z1 z3 (den_nz a b) (fun w0 s w h => terms_Mul sa.num sa.den sb.num sb.den z1 z3 w0 s w h) w g
  rw [← mul_eq] at HM
  clear sa sb z1 z3 ha hb
  go_enter Tryz.func200, Tryz.ntmps200
  go_wp2_with fail
  refine HM.mono ?_
  rintro e w1 ⟨rfl, hb1⟩
  go_wp2_with fail
  go_ret2
  exact ⟨rfl, hb1⟩

theorem rt_zero (q : Rat) : ((rt q).toList == [48]) = decide (q = 0) := by
  have e : (rt q).toList = rtx q := by unfold rt; simp
  rw [e]
  by_cases h : q = 0
  · subst h; decide +kernel
  · rw [decide_eq_false h, beq_eq_false_iff_ne]
    intro e
    apply h
    unfold rtx at e
    split at e
    · rename_i hd
      have := itoa_inj (e.trans itoa_zero.symm)
      rwa [Rat.num_eq_zero] at this
    · have := congrArg List.length e
      have h1 := itoa_ne q.num
      have h2 := dec_ne_nil q.den
      rw [List.length_append, List.length_cons] at this
      have h3 := List.length_pos_iff.2 h1
      simp at this; omega

set_option maxRecDepth 100000 in
set_option maxHeartbeats 1000000 in
theorem rDiv_c {N : Nat} {a b : Rat} (ha : Sm N a) (hb : Sm N b) (h0 : b ≠ 0) (hN : N + N < 1024) (w : World) (g : Gd w) :
    Calls Tryz.prog 178 #[.string (rt a), .string (rt b)] w fun e w' => e = .returned (.tuple #[.string (rt (a / b)), .int .i64 0]) ∧ Below w.heap.size w w' := by
  have sa := Sm.sq ha (by omega)
  have sb := Sm.sq hb (by omega)
  have z1 := sz_of (ten_mul ha.1 (y := (b.den : Int)) hb.2) (by omega)
  have z3 := sz_of (ten_mul (x := (a.den : Int)) ha.2 hb.1) (by omega)
  have hz := rt_zero b
  rw [decide_eq_false h0] at hz
  have HA := checks_pair sa sb 39 w g
  have HM := fun w g => made_Div sa sb z1 z3 (Int.mul_ne_zero (by have := a.den_nz; omega) (fun e => h0 (Rat.num_eq_zero.1 e))) (fun w0 s w h => terms_Div sa.num sa.den sb.num sb.den z1 z3 w0 s w h) w g
  rw [← Rt.div_eq] at HM
  clear sa sb z1 z3 ha hb h0
  generalize rt (a / b) = res at *
  go_enter Tryz.func178, Tryz.ntmps178
  go_wp2_with fail
  refine HA.mono ?_
  rintro e w1 ⟨rfl, hb1⟩
  go_wp2_with fail
  refine (HM _ (g.below hb1)).mono ?_
  rintro e w2 ⟨rfl, hb2⟩
  go_wp2_with fail
  go_ret2
  exact ⟨rfl, Bl.trans hb1 hb2⟩
end Go.Proofs.YtdknneofiefieaaGreatDoor
