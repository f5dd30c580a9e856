import Derived.Test.YtdknneofiefieaaGreatDoorGm
import Derived.Test.YtdknneofiefieaaGreatDoorGc

namespace Go.Proofs.YtdknneofiefieaaGreatDoor
open Go.RowKit Go.Lib Dec Wd Rt

theorem list_cells {α : Type} (w : World) (t : TypeId) (f : α → Value) (l : List α) : ∀ j z, l[j]? = some z → (w.alloc (.cells (l.map f).toArray t (0, 0))).cell? ⟨w.heap.size, j, none⟩ = some (f z) := by
  intro j z h
  have e : (w.alloc (.cells (l.map f).toArray t (0, 0))).cell? ⟨w.heap.size, j, none⟩ = (l.map f).toArray[j]? := by
    unfold World.cell?
    have : (w.alloc (.cells (l.map f).toArray t (0, 0))).heap[w.heap.size]? = some (.cells (l.map f).toArray t (0, 0)) := heap_alloc_new w _
    simp only [this]; rfl
  rw [e, List.getElem?_toArray, List.getElem?_map, h]; rfl

/-- mul of a list of operands -/
theorem smulL (l : List Int) (hl : ∀ n ∈ l, Sz n) (hp : ∀ k, Sz (prod (l.take k))) (hn : l.length ≤ 100) (t : TypeId) (w0 : World) (p : Nat) (w : World) (h : St w0 p w) :
    Calls Tryz.prog 198 #[.pointer (some ⟨p, 0, none⟩), .slice (some ⟨w.heap.size, 0, none⟩) l.length l.length] (w.alloc (.cells (l.map fun z => .string (tx z)).toArray t (0, 0))) (SumR w0 p (.string (tx (prod l))) w) :=
  (smul_c w.heap.size l.length l hl hp hn w0 p _ (h.below (pair_below w _)) (list_cells w t (fun z => .string (tx z)) l) (pair_lt w _) (Nat.ne_of_gt h.lt)).mono fun e w' => by
    rintro ⟨rfl, s1, c1⟩
    exact ⟨rfl, s1, (Ch.of (pair_below w _)).trans c1⟩

theorem sgn3 (n : Int) : n.sign = -1 ∨ n.sign = 0 ∨ n.sign = 1 := by
  rcases Int.lt_trichotomy n 0 with h | h | h
  · exact .inl (Int.sign_eq_neg_one_of_neg h)
  · exact .inr (.inl (by rw [h]; rfl))
  · exact .inr (.inr (Int.sign_eq_one_of_pos h))
theorem bd3 {a b : Int} (ha : a = -1 ∨ a = 0 ∨ a = 1) (hb : b = -1 ∨ b = 0 ∨ b = 1) : a * b = -1 ∨ a * b = 0 ∨ a * b = 1 := by
  rcases ha with h | h | h <;> rcases hb with k | k | k <;> subst h <;> subst k <;> decide
theorem wrap3 {a : Int} (ha : a = -1 ∨ a = 0 ∨ a = 1) : IntKind.i64.wrap a = a := IntWalk.i64_in _ (by omega)

set_option maxRecDepth 100000 in
set_option maxHeartbeats 2000000 in
theorem sroot_ge {x y r : Int} (hx : Sz x) (hy : Sz y) (hr : Sz r) (hge : 0 ≤ x.sign * (y.sign * r.sign)) (w0 : World) (p : Nat) (w : World) (h : St w0 p w) :
    Calls Tryz.prog 223 #[.pointer (some ⟨p, 0, none⟩), .string (tx x), .string (tx y), .string (tx r)] w (SumR w0 p (.int .i64 (isg x y r)) w) := by
  have S1 := fun w h => ssign_c hx w0 p w h
  have S2 := fun w h => ssign_c hy w0 p w h
  have S3 := fun w h => ssign_c hr w0 p w h
  have t1 := sgn3 x
  have t2 := bd3 (sgn3 y) (sgn3 r)
  have t3 := bd3 (sgn3 x) t2
  have u1 := wrap3 t2
  have u2 := wrap3 t3
  clear hx hy hr
  unfold isg
  generalize (x * x - y * y * r).sign = sd at *
  generalize x.sign = sx at *
  generalize y.sign = sy at *
  generalize r.sign = sr at *
  rw [if_pos hge]
  by_cases h0 : sx = 0
  · rw [if_pos h0]
    subst h0
    go_enter Tryz.func223, Tryz.ntmps223
    go_wp2_with fail
    refine (S1 _ h).mono ?_
    rintro e w1 ⟨rfl, s1, c1⟩
    go_wp2_with fail
    refine (S2 _ s1).mono ?_
    rintro e w2 ⟨rfl, s2, c2⟩
    go_wp2_with fail
    refine (S3 _ s2).mono ?_
    rintro e w3 ⟨rfl, s3, c3⟩
    go_wp2_with fail
    go_ret
    exact ⟨rfl, s3, (c1.trans c2).trans c3⟩
  · rw [if_neg h0]
    go_enter Tryz.func223, Tryz.ntmps223
    go_wp2_with fail
    refine (S1 _ h).mono ?_
    rintro e w1 ⟨rfl, s1, c1⟩
    go_wp2_with fail
    refine (S2 _ s1).mono ?_
    rintro e w2 ⟨rfl, s2, c2⟩
    go_wp2_with fail
    refine (S3 _ s2).mono ?_
    rintro e w3 ⟨rfl, s3, c3⟩
    go_wp2_with fail
    go_ret
    exact ⟨rfl, s3, (c1.trans c2).trans c3⟩

set_option maxRecDepth 100000 in
set_option maxHeartbeats 2000000 in
theorem sroot_lt {x y r : Int} (hx : Sz x) (hy : Sz y) (hr : Sz r) (h1 : Sz (x * x)) (h2 : Sz (y * y)) (h3 : Sz (y * y * r)) (h4 : Sz (x * x - y * y * r)) (hge : ¬ 0 ≤ x.sign * (y.sign * r.sign)) (w0 : World) (p : Nat) (w : World) (h : St w0 p w) :
    Calls Tryz.prog 223 #[.pointer (some ⟨p, 0, none⟩), .string (tx x), .string (tx y), .string (tx r)] w (SumR w0 p (.int .i64 (isg x y r)) w) := by
  have S1 := fun w h => ssign_c hx w0 p w h
  have S2 := fun w h => ssign_c hy w0 p w h
  have S3 := fun w h => ssign_c hr w0 p w h
  have M1 := fun w h => smul2 hx hx h1 96 w0 p w h
  have M2 := fun w h => smulL [y, y, r] (by simp [hy, hr]) (by
    intro k
    match k with
    | 0 => exact sz_one
    | 1 => have : prod ([y, y, r].take 1) = y := by unfold prod; simp
           rw [this]; exact hy
    | 2 => have : prod ([y, y, r].take 2) = y * y := by unfold prod; simp
           rw [this]; exact h2
    | (k + 3) => have : prod ([y, y, r].take (k + 3)) = y * y * r := by rw [List.take_of_length_le (by simp)]; unfold prod; simp
                 rw [this]; exact h3) (Nat.le_of_ble_eq_true rfl) 96 w0 p w h
  have e3 : prod [y, y, r] = y * y * r := by unfold prod; simp
  rw [e3] at M2
  have D1 := fun w h => ssub_c h1 h3 h4 w0 p w h
  have S4 := fun w h => ssign_c h4 w0 p w h
  have t1 := sgn3 x
  have t2 := bd3 (sgn3 y) (sgn3 r)
  have t3 := bd3 (sgn3 x) t2
  have t4 := bd3 (sgn3 x) (sgn3 (x * x - y * y * r))
  have u1 := wrap3 t2
  have u2 := wrap3 t3
  have u3 := wrap3 t4
  clear hx hy hr h1 h2 h3 h4 e3
  unfold isg
  generalize (x * x - y * y * r).sign = sd at *
  generalize x.sign = sx at *
  generalize y.sign = sy at *
  generalize r.sign = sr at *
  rw [if_neg hge]
  go_enter Tryz.func223, Tryz.ntmps223
  go_wp2_with fail
  refine (S1 _ h).mono ?_
  rintro e w1 ⟨rfl, s1, c1⟩
  go_wp2_with fail
  refine (S2 _ s1).mono ?_
  rintro e w2 ⟨rfl, s2, c2⟩
  go_wp2_with fail
  refine (S3 _ s2).mono ?_
  rintro e w3 ⟨rfl, s3, c3⟩
  go_wp2_with fail
  refine (M1 _ s3).mono ?_
  rintro e w4 ⟨rfl, s4, c4⟩
  go_wp2_with fail
  refine (M2 _ s4).mono ?_
  rintro e w5 ⟨rfl, s5, c5⟩
  go_wp2_with fail
  refine (D1 _ s5).mono ?_
  rintro e w6 ⟨rfl, s6, c6⟩
  go_wp2_with fail
  refine (S4 _ s6).mono ?_
  rintro e w7 ⟨rfl, s7, c7⟩
  go_wp2_with fail
  go_ret
  exact ⟨rfl, s7, ((((c1.trans c2).trans c3).trans c4).trans c5 |>.trans c6).trans c7⟩

theorem sroot_c {x y r : Int} (hx : Sz x) (hy : Sz y) (hr : Sz r) (hq : 0 ≤ x.sign * (y.sign * r.sign) ∨ Sz (x * x) ∧ Sz (y * y) ∧ Sz (y * y * r) ∧ Sz (x * x - y * y * r)) (w0 : World) (p : Nat) (w : World) (h : St w0 p w) :
    Calls Tryz.prog 223 #[.pointer (some ⟨p, 0, none⟩), .string (tx x), .string (tx y), .string (tx r)] w (SumR w0 p (.int .i64 (isg x y r)) w) := by
  by_cases hge : 0 ≤ x.sign * (y.sign * r.sign)
  · exact sroot_ge hx hy hr hge w0 p w h
  · obtain ⟨h1, h2, h3, h4⟩ := hq.resolve_left hge
    exact sroot_lt hx hy hr h1 h2 h3 h4 hge w0 p w h
end Go.Proofs.YtdknneofiefieaaGreatDoor

namespace Go.Proofs.YtdknneofiefieaaGreatDoor
open Go.RowKit Go.Lib Dec Wd Rt Geo

theorem ten_one (N : Nat) : (1 : Int).natAbs ≤ 10 ^ N := Nat.pow_pos (by decide)
theorem prod_bdN (N : Nat) : ∀ (l : List Int), (∀ n ∈ l, n.natAbs ≤ 10 ^ N) → ∀ (a : Int) (M : Nat), a.natAbs ≤ 10 ^ M → (l.foldl (· * ·) a).natAbs ≤ 10 ^ (M + N * l.length)
  | [], _, a, M, ha => ha
  | x :: t, h, a, M, ha => by
    have h1 : (a * x).natAbs ≤ 10 ^ (M + N) := by
      rw [Int.natAbs_mul, Nat.pow_add]
      exact Nat.mul_le_mul ha (h x (by simp))
    have := prod_bdN N t (fun n hn => h n (by simp [hn])) (a * x) (M + N) h1
    rw [List.foldl_cons, List.length_cons]
    rw [show M + N * (t.length + 1) = M + N + N * t.length by rw [Nat.mul_succ]; omega]
    exact this
theorem prod_ten {N : Nat} {l : List Int} (h : ∀ n ∈ l, n.natAbs ≤ 10 ^ N) (k : Nat) : (prod (l.take k)).natAbs ≤ 10 ^ (N * l.length) := by
  have := prod_bdN N (l.take k) (fun n hn => h n (List.mem_of_mem_take hn)) 1 0 (by decide)
  rw [Nat.zero_add] at this
  refine Nat.le_trans this (Nat.pow_le_pow_right (by decide) (Nat.mul_le_mul_left _ ?_))
  rw [List.length_take]; omega
theorem sz_le {z : Int} {N : Nat} (h : z.natAbs ≤ 10 ^ N) (hN : N < 1024) : Sz z := by
  refine sz_of (N := N + 1) ?_ hN
  rw [Nat.pow_succ]
  have : 0 < 10 ^ N := Nat.pow_pos (by decide)
  omega
theorem le_mul {x y : Int} {M N : Nat} (hx : x.natAbs ≤ 10 ^ M) (hy : y.natAbs ≤ 10 ^ N) : (x * y).natAbs ≤ 10 ^ (M + N) := by
  rw [Int.natAbs_mul, Nat.pow_add]
  exact Nat.mul_le_mul hx hy
theorem le_sub {x y : Int} {N : Nat} (hx : x.natAbs ≤ 10 ^ N) (hy : y.natAbs ≤ 10 ^ N) : (x - y).natAbs ≤ 10 ^ (N + 1) := by
  rw [Nat.pow_succ]; omega

theorem le_sub' {x y : Int} {M N : Nat} (hx : x.natAbs ≤ 10 ^ N) (hy : y.natAbs ≤ 10 ^ M) (e : M = N) : (x - y).natAbs ≤ 10 ^ (N + 1) := by
  subst e; exact le_sub hx hy
theorem le_of {z : Int} {M N : Nat} (h : z.natAbs ≤ 10 ^ M) (e : M = N) : z.natAbs ≤ 10 ^ N := e ▸ h
/-- mul of a list of operands, with a bound for each -/
theorem smulN (N : Nat) (l : List Int) (hl : ∀ n ∈ l, n.natAbs ≤ 10 ^ N) (hN : N * l.length < 1024) (hN1 : N < 1024) (hn : l.length ≤ 100) (t : TypeId) (w0 : World) (p : Nat) (w : World) (h : St w0 p w) :
    Calls Tryz.prog 198 #[.pointer (some ⟨p, 0, none⟩), .slice (some ⟨w.heap.size, 0, none⟩) l.length l.length] (w.alloc (.cells (l.map fun z => .string (tx z)).toArray t (0, 0))) (SumR w0 p (.string (tx (prod l))) w) :=
  smulL l (fun n h => sz_le (hl n h) hN1) (fun k => sz_le (prod_ten hl k) hN) hn t w0 p w h

theorem rt_zero' : (⟨#[48]⟩ : ByteArray) = rt 0 := by decide +kernel
theorem sq_zero : Sq 0 := ⟨sz_zero, sz_one⟩
theorem rtx_head (q : Rat) : ∃ c t, rtx q = c :: t ∧ (c = 45 ↔ q < 0) := by
  obtain ⟨c, t, e, hc⟩ := itoa_head q.num
  unfold rtx
  split
  · exact ⟨c, t, e, hc.trans (num_sign q).1.symm⟩
  · exact ⟨c, _, by rw [e]; rfl, hc.trans (num_sign q).1.symm⟩
theorem rt_pos (q : Rat) : 0 < (rt q).size := by
  obtain ⟨c, t, e, _⟩ := rtx_head q
  unfold rt
  show 0 < (rtx q).toArray.size
  rw [e]; simp
theorem rt_get0 (q : Rat) (h : 0 < (rt q).size) : ((((rt q)[0]'h).toNat : Int) == 45) = decide (q < 0) := by
  obtain ⟨c, t, e, hc⟩ := rtx_head q
  have h1 : (rt q)[0]'h = c := by
    show (rt q).data[0] = c
    have : (rt q).data = (rtx q).toArray := rfl
    simp only [this, e]; rfl
  rw [h1]
  by_cases h2 : q < 0
  · rw [hc.2 h2, decide_eq_true h2]; decide
  · rw [decide_eq_false h2, beq_eq_false_iff_ne]
    intro h3
    have : c = 45 := UInt8.toNat_inj.1 (by have : (45 : UInt8).toNat = 45 := rfl; omega)
    exact h2 (hc.1 this)

/-- the cells of a list of rational numbers are right -/
theorem checksL (l : List Rat) (hl : ∀ q ∈ l, Sq q) (hn : l.length ≤ 100) (t : TypeId) (w : World) (g : Gd w) :
    Calls Tryz.prog 202 #[.slice (some ⟨w.heap.size, 0, none⟩) l.length l.length] (w.alloc (.cells (l.map fun q => .string (rt q)).toArray t (0, 0))) fun e w' => e = .returned (.int .i64 0) ∧ Below w.heap.size w w' :=
  (checks_loop w.heap.size l.length l hl hn _ (g.alloc _) (list_cells w t (fun q => .string (rt q)) l) (pair_lt w _)).mono fun e w' => by
    rintro ⟨rfl, hb⟩
    exact ⟨rfl, Bl.trans (pair_below w _) hb⟩

theorem isg3 (x y r : Int) : isg x y r = -1 ∨ isg x y r = 0 ∨ isg x y r = 1 := by
  unfold isg
  have h1 := sgn3 x
  have h2 := bd3 (sgn3 y) (sgn3 r)
  have h3 := bd3 h1 (sgn3 (x * x - y * y * r))
  split
  · split
    · exact h2
    · exact h1
  · exact h3

theorem smn {N : Nat} {q : Rat} (h : Sm N q) : q.num.natAbs ≤ 10 ^ N := Nat.le_of_lt h.1
theorem smd {N : Nat} {q : Rat} (h : Sm N q) : (q.den : Int).natAbs ≤ 10 ^ N := Nat.le_of_lt h.2

set_option maxRecDepth 100000 in
set_option maxHeartbeats 2000000 in
theorem sroots_c {a b c : Rat} (ha : Sm 80 a) (hb : Sm 80 b) (hc : Sm 80 c) (h0 : 0 ≤ c) (w : World) (g : Gd w) :
    Calls Tryz.prog 194 #[.string (rt a), .string (rt b), .string (rt c), .string (rt 0), .string (rt 0)] w fun e w' => e = .returned (.tuple #[.int .i64 (rsg a b c), .int .i64 0]) ∧ Below w.heap.size w w' := by
  have sa := Sm.sq ha (by omega)
  have sb := Sm.sq hb (by omega)
  have sc := Sm.sq hc (by omega)
  have HA := checksL [a, b, c, 0, 0] (by
    intro q hq
    simp only [List.mem_cons, List.not_mem_nil, or_false] at hq
    rcases hq with rfl | rfl | rfl | rfl | rfl
    · exact sa
    · exact sb
    · exact sc
    · exact sq_zero
    · exact sq_zero) (Nat.le_of_ble_eq_true rfl) 39 w g
  have p1 := rt_pos c
  have p2 := rt_pos 0
  have g1 := rt_get0 c p1
  have g2 := rt_get0 0 p2
  rw [decide_eq_false (by grind)] at g1
  rw [decide_eq_false (by decide)] at g2
  have C1 := cut_c sa
  have C2 := cut_c sb
  have C3 := cut_c sc
  have C4 := cut_c sq_zero
  have hn1 := smn ha
  have hd1 := smd ha
  have hn2 := smn hb
  have hd2 := smd hb
  have hn3 := smn hc
  have hd3 := smd hc
  have o1 := ten_one 80
  have z1 : (0 : Int).natAbs ≤ 10 ^ 80 := Nat.zero_le _
  have M1 := fun w0 p w h => smulN 80 [a.num, b.den, c.den, 1, 1] (by
    intro n hn
    simp only [List.mem_cons, List.not_mem_nil, or_false] at hn
    rcases hn with rfl | rfl | rfl | rfl | rfl <;> assumption) (Nat.le_of_ble_eq_true rfl) (by omega) (Nat.le_of_ble_eq_true rfl) 96 w0 p w h
  have M2 := fun w0 p w h => smulN 80 [b.num, a.den, 1, 1] (by
    intro n hn
    simp only [List.mem_cons, List.not_mem_nil, or_false] at hn
    rcases hn with rfl | rfl | rfl | rfl <;> assumption) (Nat.le_of_ble_eq_true rfl) (by omega) (Nat.le_of_ble_eq_true rfl) 96 w0 p w h
  have M3 := fun w0 p w h => smulN 80 [c.num, c.den] (by
    intro n hn
    simp only [List.mem_cons, List.not_mem_nil, or_false] at hn
    rcases hn with rfl | rfl <;> assumption) (Nat.le_of_ble_eq_true rfl) (by omega) (Nat.le_of_ble_eq_true rfl) 96 w0 p w h
  have M4 := fun w0 p w h => smulN 80 [0, a.den, b.den, c.den] (by
    intro n hn
    simp only [List.mem_cons, List.not_mem_nil, or_false] at hn
    rcases hn with rfl | rfl | rfl | rfl <;> assumption) (Nat.le_of_ble_eq_true rfl) (by omega) (Nat.le_of_ble_eq_true rfl) 96 w0 p w h
  have M5 := fun w0 p w h => smulN 80 [0, 1] (by
    intro n hn
    simp only [List.mem_cons, List.not_mem_nil, or_false] at hn
    rcases hn with rfl | rfl <;> assumption) (Nat.le_of_ble_eq_true rfl) (by omega) (Nat.le_of_ble_eq_true rfl) 96 w0 p w h
  have e1 : prod [a.num, (b.den : Int), (c.den : Int), 1, 1] = a.num * b.den * c.den := by simp [prod]
  have e2 : prod [b.num, (a.den : Int), 1, 1] = b.num * a.den := by simp [prod]
  have e3 : prod [c.num, (c.den : Int)] = c.num * c.den := by simp [prod]
  have e4 : prod [0, (a.den : Int), (b.den : Int), (c.den : Int)] = 0 := by simp [prod]
  have e5 : prod [0, 1] = 0 := by decide
  rw [e1] at M1
  rw [e2] at M2
  rw [e3] at M3
  rw [e4] at M4
  rw [e5] at M5
  have x1 := le_mul (le_mul hn1 hd2) hd3
  have y1 := le_mul hn2 hd1
  have r1 := le_mul hn3 hd3
  have xx := le_mul x1 x1
  have yy := le_mul y1 y1
  have yr := le_mul yy r1
  have R1 := fun w0 p w h => sroot_c (sz_le x1 (by decide)) (sz_le y1 (by decide)) (sz_le r1 (by decide)) (.inr ⟨sz_le xx (by decide), sz_le yy (by decide), sz_le yr (by decide), sz_le (le_sub' xx yr (by omega)) (by omega)⟩) w0 p w h
  have i3 := isg3 (a.num * b.den * c.den) (b.num * a.den) (c.num * c.den)
  have S0 := fun w0 p w h => ssign_c sz_zero w0 p w h
  rw [Int.sign_zero] at S0
  rw [isg_eq] at R1 i3
  have n0 : Rat.num 0 = 0 := rfl
  have d0 : ((Rat.den 0 : Nat) : Int) = 1 := rfl
  rw [n0, d0] at C4
  have d1 : decide ((0 : Rat).den ≠ 1) = false := by decide
  rw [d1] at C4
  clear e1 e2 e3 e4 e5 x1 y1 r1 xx yy yr hn1 hd1 hn2 hd2 hn3 hd3 o1 z1 sa sb sc ha hb hc h0 n0 d0 d1
  generalize rsg a b c = rs at *
  generalize decide (a.den ≠ 1) = q1 at *
  generalize decide (b.den ≠ 1) = q2 at *
  generalize decide (c.den ≠ 1) = q3 at *
  generalize tx (a.num * b.den * c.den) = tX at *
  generalize tx (b.num * a.den) = tY at *
  generalize tx (c.num * c.den) = tR at *
  simp only [List.map_cons, List.map_nil, List.length_cons, List.length_nil, Nat.reduceAdd] at HA M1 M2 M3 M4 M5
  go_enter Tryz.func194, Tryz.ntmps194
  go_wp2_with fail
  refine HA.mono ?_
  rintro e w1 ⟨rfl, hb1⟩
  go_wp2_with fail
  refine (C1 _ (g.below hb1)).mono ?_
  rintro e w2 ⟨rfl, k1, rfl⟩
  have g1 := (g.below hb1)
  go_wp2_with fail
  refine (C2 _ (g1.drewN _)).mono ?_
  rintro e w3 ⟨rfl, k2, rfl⟩
  go_wp2_with fail
  refine (C3 _ (g1.drewN _)).mono ?_
  rintro e w4 ⟨rfl, k3, rfl⟩
  go_wp2_with fail
  refine (C4 _ (g1.drewN _)).mono ?_
  rintro e w5 ⟨rfl, k4, rfl⟩
  go_wp2_with fail
  refine (C4 _ (g1.drewN _)).mono ?_
  rintro e w6 ⟨rfl, k5, rfl⟩
  have B3 := below_drewN hb1 (k1 + k2 + k3 + k4 + k5)
  have hS : St w w1.heap.size ((w1.drewN (k1 + k2 + k3 + k4 + k5)).alloc (.cells #[.int .i64 0] 242 (0, 0))) := St.new w (w1.drewN (k1 + k2 + k3 + k4 + k5)) g B3
  have N1 := M1 w _ _ hS
  have e1 : ((w1.drewN (k1 + k2 + k3 + k4 + k5)).alloc (.cells #[.int .i64 0] 242 (0, 0))).heap.size = w1.heap.size + 1 := by simp
  rw [e1] at N1
  go_wp2_with fail
  refine N1.mono ?_
  rintro e w7 ⟨rfl, s7, c7⟩
  go_wp2_with fail
  refine (M2 w _ _ s7).mono ?_
  rintro e w8 ⟨rfl, s8, c8⟩
  go_wp2_with fail
  refine (M3 w _ _ s8).mono ?_
  rintro e w9 ⟨rfl, s9, c9⟩
  go_wp2_with fail
  refine (M4 w _ _ s9).mono ?_
  rintro e w10 ⟨rfl, s10, c10⟩
  go_wp2_with fail
  refine (M5 w _ _ s10).mono ?_
  rintro e w11 ⟨rfl, s11, c11⟩
  go_wp2_with fail
  refine (R1 w _ _ s11).mono ?_
  rintro e w12 ⟨rfl, s12, c12⟩
  go_wp2_with fail
  refine (S0 w _ _ s12).mono ?_
  rintro e w13 ⟨rfl, s13, c13⟩
  go_wp2_with fail
  refine (S0 w _ _ s13).mono ?_
  rintro e w14 ⟨rfl, s14, c14⟩
  have d14 := s14.cell
  go_wp2_with fail
  all_goals
    go_quiet (fail)
    go_wp2_with fail
    go_ret2
    first
      | exact ⟨rfl, below_drewN s14.b _⟩
      | exact ⟨by have hh : rs = 0 := eq_of_beq (by assumption)
                  rw [hh]
                  rfl, below_drewN s14.b _⟩


set_option maxRecDepth 100000 in
set_option maxHeartbeats 1000000 in
theorem sroot1_c {a b c : Rat} (ha : Sm 80 a) (hb : Sm 80 b) (hc : Sm 80 c) (h0 : 0 ≤ c) (w : World) (g : Gd w) :
    Calls Tryz.prog 165 #[.string (rt a), .string (rt b), .string (rt c)] w fun e w' => e = .returned (.tuple #[.int .i64 (rsg a b c), .int .i64 0]) ∧ Below w.heap.size w w' := by
  have H := sroots_c ha hb hc h0 w g
  rw [← rt_zero'] at H
  clear ha hb hc h0
  generalize rsg a b c = rs at *
  go_enter Tryz.func165, Tryz.ntmps165
  go_wp2_with fail
  refine H.mono ?_
  rintro e w1 ⟨rfl, b1⟩
  go_wp2_with fail
  go_ret2
  exact ⟨rfl, b1⟩
end Go.Proofs.YtdknneofiefieaaGreatDoor
