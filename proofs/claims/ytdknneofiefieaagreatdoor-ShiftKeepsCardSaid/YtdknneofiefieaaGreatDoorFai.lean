import Derived.Deep.AppendLies
import Derived.Deep.QuietTactic
import Derived.BigQuiet
import Derived.Test.YtdknneofiefieaaGreatDoorGy
import Derived.Test.YtdknneofiefieaaGreatDoorGo
import Derived.Test.YtdknneofiefieaaGreatDoorPm
import Derived.Test.YtdknneofiefieaaGreatDoorGz

namespace Go.Proofs.YtdknneofiefieaaGreatDoor
open Go.RowKit Go.Lib Rt Geo Sh

set_option maxRecDepth 100000 in
set_option maxHeartbeats 2000000 in
theorem bgap_c {x y lwl hgh tol mat cx cy n gx gy : Int} {pin : Bool} (h1 : IntKind.i64.wrap (cx - x) = gx) (h2 : IntKind.i64.wrap (cy - y) = gy) (w : World) :
    Calls Tryz.prog 100 #[.agg #[.int .i64 x, .int .i64 y, .int .i64 lwl, .int .i64 hgh, .int .i64 tol, .int .i64 mat, .bool pin], .agg #[.int .i64 cx, .int .i64 cy, .int .i64 n]] w (RB (.tuple #[.int .i64 gx, .int .i64 gy]) w) := by
  obtain ⟨W, hW⟩ : ∃ W, (w.alloc (.cells #[.int .i64 x, .int .i64 y, .int .i64 lwl, .int .i64 hgh, .int .i64 tol, .int .i64 mat, .bool pin] 85)).alloc (.cells #[.int .i64 cx, .int .i64 cy, .int .i64 n] 75) = W := ⟨_, rfl⟩
  have q1 : W.heap[w.heap.size]? = some (.cells #[.int .i64 x, .int .i64 y, .int .i64 lwl, .int .i64 hgh, .int .i64 tol, .int .i64 mat, .bool pin] 85 (0, 0)) := hW ▸ (Below.heap_alloc _ _ _ (by simp)).trans (heap_alloc_new w _)
  have q2 : W.heap[w.heap.size + 1]? = some (.cells #[.int .i64 cx, .int .i64 cy, .int .i64 n] 75 (0, 0)) := by
    have := heap_alloc_new (w.alloc (.cells #[.int .i64 x, .int .i64 y, .int .i64 lwl, .int .i64 hgh, .int .i64 tol, .int .i64 mat, .bool pin] 85)) (.cells #[.int .i64 cx, .int .i64 cy, .int .i64 n] 75 (0, 0))
    rw [World.size_alloc] at this
    rw [← hW]; exact this
  have bW : Below w.heap.size w W := hW ▸ ((Below.refl _ w).alloc (Nat.le_refl _) _).alloc (by simp) _
  have a0 : W.cell? ⟨w.heap.size, 0, none⟩ = some (.int .i64 x) := cell_of_row W _ 0 _ _ _ q1
  have a1 : W.cell? ⟨w.heap.size, 1, none⟩ = some (.int .i64 y) := cell_of_row W _ 1 _ _ _ q1
  have d0 : W.cell? ⟨w.heap.size + 1, 0, none⟩ = some (.int .i64 cx) := cell_of_row W _ 0 _ _ _ q2
  have d1 : W.cell? ⟨w.heap.size + 1, 1, none⟩ = some (.int .i64 cy) := cell_of_row W _ 1 _ _ _ q2
  go_enter Tryz.func100, Tryz.ntmps100
  go_wp2_with fail
  clear hW
  go_quiet (fail)
  go_wp2_with fail
  go_ret2
  exact ⟨rfl, below_drewN bW _⟩

set_option maxRecDepth 100000 in
set_option maxHeartbeats 2000000 in
theorem bgood_w {x y lwl hgh tol mat cx cy n gx gy sd r a xx yy ss s4 aa : Int} {pin b : Bool} (ha : IntKind.i64.wrap (tol + r) = a) (e1 : IntKind.i64.wrap (gx * gx) = xx) (e2 : IntKind.i64.wrap (gy * gy) = yy) (e3 : IntKind.i64.wrap (xx + yy) = ss)
    (e4 : IntKind.i64.wrap (4 * ss) = s4) (e5 : IntKind.i64.wrap (a * a) = aa) (hb : decide (s4 ≤ aa) = b) (w : World) (g : Gd w)
    (G : ∀ w, Calls Tryz.prog 100 #[.agg #[.int .i64 x, .int .i64 y, .int .i64 lwl, .int .i64 hgh, .int .i64 tol, .int .i64 mat, .bool pin], .agg #[.int .i64 cx, .int .i64 cy, .int .i64 n]] w (RB (.tuple #[.int .i64 gx, .int .i64 gy]) w))
    (O : ∀ w, Gd w → Calls Tryz.prog 101 #[.agg #[.int .i64 x, .int .i64 y, .int .i64 lwl, .int .i64 hgh, .int .i64 tol, .int .i64 mat, .bool pin]] w (RB (.agg #[.int .i64 x, .int .i64 y, .int .i64 lwl, .int .i64 hgh, .int .i64 tol, .int .i64 mat, .bool pin, .int .i64 sd]) w))
    (E : ∀ w, Calls Tryz.prog 102 #[.agg #[.int .i64 x, .int .i64 y, .int .i64 lwl, .int .i64 hgh, .int .i64 tol, .int .i64 mat, .bool pin, .int .i64 sd], .int .i64 n] w (RB (.int .i64 r) w))
    (I : ∀ w, Calls Tryz.prog 103 #[.agg #[.int .i64 x, .int .i64 y, .int .i64 lwl, .int .i64 hgh, .int .i64 tol, .int .i64 mat, .bool pin], .int .i64 n] w (RB (.bool true) w)) :
    Calls Tryz.prog 67 #[.agg #[.int .i64 x, .int .i64 y, .int .i64 lwl, .int .i64 hgh, .int .i64 tol, .int .i64 mat, .bool pin], .agg #[.int .i64 cx, .int .i64 cy, .int .i64 n]] w (RB (.bool b) w) := by
  obtain ⟨W, hW⟩ : ∃ W, (w.alloc (.cells #[.int .i64 x, .int .i64 y, .int .i64 lwl, .int .i64 hgh, .int .i64 tol, .int .i64 mat, .bool pin] 85)).alloc (.cells #[.int .i64 cx, .int .i64 cy, .int .i64 n] 75) = W := ⟨_, rfl⟩
  have q1 : W.heap[w.heap.size]? = some (.cells #[.int .i64 x, .int .i64 y, .int .i64 lwl, .int .i64 hgh, .int .i64 tol, .int .i64 mat, .bool pin] 85 (0, 0)) := hW ▸ (Below.heap_alloc _ _ _ (by simp)).trans (heap_alloc_new w _)
  have q2 : W.heap[w.heap.size + 1]? = some (.cells #[.int .i64 cx, .int .i64 cy, .int .i64 n] 75 (0, 0)) := by
    have := heap_alloc_new (w.alloc (.cells #[.int .i64 x, .int .i64 y, .int .i64 lwl, .int .i64 hgh, .int .i64 tol, .int .i64 mat, .bool pin] 85)) (.cells #[.int .i64 cx, .int .i64 cy, .int .i64 n] 75 (0, 0))
    rw [World.size_alloc] at this
    rw [← hW]; exact this
  have bW : Below w.heap.size w W := hW ▸ ((Below.refl _ w).alloc (Nat.le_refl _) _).alloc (by simp) _
  have CC : ∀ X : World, X.heap[w.heap.size]? = some (.cells #[.int .i64 x, .int .i64 y, .int .i64 lwl, .int .i64 hgh, .int .i64 tol, .int .i64 mat, .bool pin] 85 (0, 0)) → X.heap[w.heap.size + 1]? = some (.cells #[.int .i64 cx, .int .i64 cy, .int .i64 n] 75 (0, 0)) →
      X.cell? ⟨w.heap.size, 0, none⟩ = some (.int .i64 x) ∧ X.cell? ⟨w.heap.size, 1, none⟩ = some (.int .i64 y) ∧ X.cell? ⟨w.heap.size, 2, none⟩ = some (.int .i64 lwl) ∧ X.cell? ⟨w.heap.size, 3, none⟩ = some (.int .i64 hgh) ∧ X.cell? ⟨w.heap.size, 4, none⟩ = some (.int .i64 tol) ∧ X.cell? ⟨w.heap.size, 5, none⟩ = some (.int .i64 mat) ∧ X.cell? ⟨w.heap.size, 6, none⟩ = some (.bool pin) ∧ X.cell? ⟨w.heap.size + 1, 2, none⟩ = some (.int .i64 n) := fun X h h' =>
    ⟨cell_of_row X _ 0 _ _ _ h, cell_of_row X _ 1 _ _ _ h, cell_of_row X _ 2 _ _ _ h, cell_of_row X _ 3 _ _ _ h, cell_of_row X _ 4 _ _ _ h, cell_of_row X _ 5 _ _ _ h, cell_of_row X _ 6 _ _ _ h, cell_of_row X _ 2 _ _ _ h'⟩
  obtain ⟨a0, a1, a2, a3, a4, a5, a6, d2⟩ := CC W q1 q2
  have d0 : W.cell? ⟨w.heap.size + 1, 0, none⟩ = some (.int .i64 cx) := cell_of_row W _ 0 _ _ _ q2
  have d1 : W.cell? ⟨w.heap.size + 1, 1, none⟩ = some (.int .i64 cy) := cell_of_row W _ 1 _ _ _ q2
  have CC := Lib.hid CC
  go_enter Tryz.func67, Tryz.ntmps67
  go_wp2_with fail
  clear hW
  refine (G W).mono ?_
  rintro e w1 ⟨rfl, b1⟩
  have B1 := Bl.trans bW b1
  have q3 := blk_below q1 b1
  have q4 := blk_below q2 b1
  have g1 := g.below B1
  clear a0 a1 a2 a3 a4 a5 a6 d0 d1 d2
  go_wp2_with fail
  refine Reg.walk (by kernel_rfl) 8 (by kernel_rfl) (by decide) (by kernel_rfl) (fun _ => false) (fun _ => [(some 14, .pointer (some ⟨w.heap.size, 4, none⟩)), (some 15, .int .i64 tol), (some 16, .agg #[.int .i64 x, .int .i64 y, .int .i64 lwl, .int .i64 hgh, .int .i64 tol, .int .i64 mat, .bool pin]), (some 17, .agg #[.int .i64 x, .int .i64 y, .int .i64 lwl, .int .i64 hgh, .int .i64 tol, .int .i64 mat, .bool pin, .int .i64 sd]), (some 18, .pointer (some ⟨w.heap.size + 1, 2, none⟩)), (some 19, .int .i64 n), (some 20, .int .i64 r), (some 21, .int .i64 a)])
    (fun _ => rfl) (fun _ _ _ => rfl) (fun _ _ _ h => by cases h) (fun _ _ _ => True) (fun _ _ _ _ _ _ => trivial)
    (fun W' => Below w1.heap.size w1 W')
    ((Below.refl _ w1).drew) ?_ ?_
  · intro i o hi ho Q' a w' hw hon hoff K hK
    match i, hi with
    | 0, _ =>
      obtain rfl := Option.some.inj ho
      clear ho
      have o2 : a.tmps[2]?.getD undef = .pointer (some ⟨w.heap.size, 0, none⟩) := hoff 2 (by kernel_rfl)
      clear hon hoff
      rw [if_pos (by rfl)]
      go_simp
      exact hK _ _ rfl hw (Below.refl _ _)
    | 1, _ =>
      obtain rfl := Option.some.inj ho
      clear ho
      have o14 : a.tmps[14]?.getD undef = .pointer (some ⟨w.heap.size, 4, none⟩) := (Option.some.inj (hon 0 _ _ (by kernel_rfl) (by decide) rfl rfl rfl)).symm
      clear hon hoff
      rw [if_pos (by rfl)]
      obtain ⟨a0, a1, a2, a3, a4, a5, a6, d2⟩ := CC.out _ (blk_below q3 hw) (blk_below q4 hw)
      go_simp
      exact hK _ _ rfl hw (Below.refl _ _)
    | 2, _ =>
      obtain rfl := Option.some.inj ho
      clear ho
      have o2 : a.tmps[2]?.getD undef = .pointer (some ⟨w.heap.size, 0, none⟩) := hoff 2 (by kernel_rfl)
      clear hon hoff
      rw [if_pos (by rfl)]
      obtain ⟨a0, a1, a2, a3, a4, a5, a6, d2⟩ := CC.out _ (blk_below q3 hw) (blk_below q4 hw)
      go_simp
      exact hK _ _ rfl hw (Below.refl _ _)
    | 3, _ =>
      obtain rfl := Option.some.inj ho
      clear ho
      have o16 : a.tmps[16]?.getD undef = .agg #[.int .i64 x, .int .i64 y, .int .i64 lwl, .int .i64 hgh, .int .i64 tol, .int .i64 mat, .bool pin] := (Option.some.inj (hon 2 _ _ (by kernel_rfl) (by decide) rfl rfl rfl)).symm
      clear hon hoff
      rw [if_pos (by rfl)]
      go_simp
      refine (O _ (g1.below hw)).mono ?_
      rintro e w1 ⟨rfl, b1⟩
      exact hK _ _ rfl (Bl.trans hw b1) b1
    | 4, _ =>
      obtain rfl := Option.some.inj ho
      clear ho
      have o3 : a.tmps[3]?.getD undef = .pointer (some ⟨w.heap.size + 1, 0, none⟩) := hoff 3 (by kernel_rfl)
      clear hon hoff
      rw [if_pos (by rfl)]
      go_simp
      exact hK _ _ rfl hw (Below.refl _ _)
    | 5, _ =>
      obtain rfl := Option.some.inj ho
      clear ho
      have o18 : a.tmps[18]?.getD undef = .pointer (some ⟨w.heap.size + 1, 2, none⟩) := (Option.some.inj (hon 4 _ _ (by kernel_rfl) (by decide) rfl rfl rfl)).symm
      clear hon hoff
      rw [if_pos (by rfl)]
      obtain ⟨a0, a1, a2, a3, a4, a5, a6, d2⟩ := CC.out _ (blk_below q3 hw) (blk_below q4 hw)
      go_simp
      exact hK _ _ rfl hw (Below.refl _ _)
    | 6, _ =>
      obtain rfl := Option.some.inj ho
      clear ho
      have o17 : a.tmps[17]?.getD undef = .agg #[.int .i64 x, .int .i64 y, .int .i64 lwl, .int .i64 hgh, .int .i64 tol, .int .i64 mat, .bool pin, .int .i64 sd] := (Option.some.inj (hon 3 _ _ (by kernel_rfl) (by decide) rfl rfl rfl)).symm
      have o19 : a.tmps[19]?.getD undef = .int .i64 n := (Option.some.inj (hon 5 _ _ (by kernel_rfl) (by decide) rfl rfl rfl)).symm
      clear hon hoff
      rw [if_pos (by rfl)]
      go_simp
      refine (E _).mono ?_
      rintro e w1 ⟨rfl, b1⟩
      exact hK _ _ rfl (Bl.trans hw b1) b1
    | 7, _ =>
      obtain rfl := Option.some.inj ho
      clear ho
      have o15 : a.tmps[15]?.getD undef = .int .i64 tol := (Option.some.inj (hon 1 _ _ (by kernel_rfl) (by decide) rfl rfl rfl)).symm
      have o20 : a.tmps[20]?.getD undef = .int .i64 r := (Option.some.inj (hon 6 _ _ (by kernel_rfl) (by decide) rfl rfl rfl)).symm
      clear hon hoff
      rw [if_pos (by rfl)]
      go_simp
      exact hK _ _ rfl hw (Below.refl _ _)
    | i + 8, h => exact absurd h (by omega)
  · intro g2 w' hw _ _
    simp only [List.drop_succ_cons, List.drop_zero, Reg.puts, Act.put, List.setIfInBounds_toArray, List.set_cons_succ, List.set_cons_zero]
    obtain ⟨a0, a1, a2, a3, a4, a5, a6, d2⟩ := CC.out _ (blk_below q3 hw) (blk_below q4 hw)
    have B2 := Bl.trans B1 hw
    have II := I w'
    clear O E G I
    go_wp2_with fail
    refine II.mono ?_
    rintro e w3 ⟨rfl, b3⟩
    clear a0 a1 a2 a3 a4 a5 a6 d2
    go_wp2_with fail
    go_ret
    exact ⟨rfl, Bl.trans B2 b3⟩

theorem bgood_c {t : Tg} {c : Ci} (h : Tok t) (hc : Cok c) (k : Win t c) (w : World) (g : Gd w) :
    Calls Tryz.prog 67 #[.agg (tcells t), .agg (ccells c)] w (RB (.bool (decide (gd t c))) w) := by
  have hx := extra_bd h k
  have ab := alw_bd h k
  have x1 := h.x1; have x2 := h.x2; have y1 := h.y1; have y2 := h.y2
  have c1 := hc.x1; have c2 := hc.x2; have d1 := hc.y1; have d2 := hc.y2
  have ha : IntKind.i64.wrap (t.tol + extra t c.n) = alw t c := by unfold alw at *; exact IntWalk.i64_in _ (by omega)
  have gx : IntKind.i64.wrap (c.x - t.x) = c.x - t.x := IntWalk.i64_in _ (by omega)
  have gy : IntKind.i64.wrap (c.y - t.y) = c.y - t.y := IntWalk.i64_in _ (by omega)
  have sq : ∀ z : Int, -200000 ≤ z → z ≤ 200000 → 0 ≤ z * z ∧ z * z ≤ 40000000000 := fun z h1 h2 => by
    have n1 : z.natAbs ≤ 200000 := by omega
    have n2 : (z * z).natAbs ≤ 40000000000 := by rw [Int.natAbs_mul]; exact Nat.le_trans (Nat.mul_le_mul n1 n1) (by decide)
    have n3 : 0 ≤ z * z := by
      rcases Int.le_total 0 z with h | h
      · exact Int.mul_nonneg h h
      · exact Int.mul_nonneg_of_nonpos_of_nonpos h h
    omega
  have sx := sq (c.x - t.x) (by omega) (by omega)
  have sy := sq (c.y - t.y) (by omega) (by omega)
  have sa := sq (alw t c) (by omega) (by omega)
  unfold gd
  exact bgood_w (b := decide (4 * ((c.x - t.x) * (c.x - t.x) + (c.y - t.y) * (c.y - t.y)) ≤ alw t c * alw t c)) ha (IntWalk.i64_in _ (by omega)) (IntWalk.i64_in _ (by omega)) (IntWalk.i64_in _ (by omega)) (IntWalk.i64_in _ (by omega)) (IntWalk.i64_in _ (by omega)) rfl w g
    (fun w => bgap_c gx gy w) (fun w g => bof_c h.m1 h.m2 rfl w g) (fun w => bextra_c h k w) (fun w => bwithin_c k.lo k.hi w)

theorem intI : (Tryz.prog.info? 3).map (fun i => (i.size, i.bytes, i.zero.map (·.cells.size))) = some (1, 8, some 1) := by kernel_rfl
theorem intInfo : ∃ i z, Tryz.prog.info? 3 = some i ∧ i.zero = some z ∧ i.size = 1 ∧ i.bytes = 8 ∧ z.cells.size = 1 := by
  have h := intI
  cases hi : Tryz.prog.info? 3 with
  | none => rw [hi] at h; cases h
  | some i =>
    rw [hi] at h
    simp at h
    obtain ⟨h1, h2, z, h3, h4⟩ := h
    exact ⟨i, z, rfl, h3, h1, h2, h4⟩
theorem owns_slice {x : World} {base n size : Nat} {e : TypeId} {v : Value} {xs : List Value} (h : x.ownsRow base e size v n xs) : ∃ p cap, v = .slice p n cap := by
  rcases h.2 with ⟨h1, h2⟩ | ⟨g, cap, _, h1, _⟩
  · exact ⟨none, 0, by rw [h1, h2]⟩
  · exact ⟨_, cap, h1⟩
/-- the circles that do not keep their targets -/
def fails (ts : List (Tg × Ci)) : List Value := (ts.filter fun p => !decide (gd p.1 p.2)).map fun _ => .int .i64 0
theorem fails_none (ts : List (Tg × Ci)) : (ts.filter fun p => !decide (gd p.1 p.2)).length = 0 ↔ ∀ p ∈ ts, gd p.1 p.2 := by
  rw [List.length_eq_zero_iff, List.filter_eq_nil_iff]
  exact forall_congr' fun p => imp_congr_right fun _ => by simp
def nf (ts : List (Tg × Ci)) (k : Nat) : Nat := ((ts.take k).filter fun p => !decide (gd p.1 p.2)).length
theorem nf_succ {ts : List (Tg × Ci)} {k : Nat} {q : Tg × Ci} (h : ts[k]? = some q) : nf ts (k + 1) = nf ts k + if gd q.1 q.2 then 0 else 1 := by
  unfold nf
  rw [List.take_add_one, h, List.filter_append, List.length_append]
  congr 1
  by_cases hg : gd q.1 q.2 <;> simp [hg]
theorem nf_le (ts : List (Tg × Ci)) (k : Nat) : nf ts k ≤ k := by
  unfold nf
  exact Nat.le_trans (List.length_filter_le _ _) (by rw [List.length_take]; omega)

set_option maxRecDepth 100000 in
set_option maxHeartbeats 2000000 in
theorem bfail_c {ts : List (Tg × Ci)} {b o b' o' cp cp' : Nat} (h : Pok ts) (hn : ts.length ≤ 16) (w : World) (g : Gd w) (hm : PM w b o b' o' ts) :
    Calls Tryz.prog 37 #[.slice (some ⟨b, o, none⟩) ts.length cp, .slice (some ⟨b', o', none⟩) ts.length cp'] w fun e w' => (∃ p cap, e = .returned (.tuple #[.slice p (nf ts ts.length) cap, .int .i64 0])) ∧ Below w.heap.size w w' := by
  have hW := h.w
  have hT := h.t
  have hC := h.c
  have P := bPlate_c (cp := cp) (cp' := cp') h hn w hm
  obtain ⟨di, dz, hi0, hz0, hs0, hb0, hc0⟩ := intInfo
  clear h
  go_enter Tryz.func37, Tryz.ntmps37
  go_wp2_with fail
  refine P.mono ?_
  rintro e w1 ⟨rfl, b1⟩
  have hm1 := hm.step b1
  clear hm P
  go_wp2_with fail
  go_loopg [7, 8, 9, 18] ts.length (fun m out _ _ i wr => ∃ k : Nat, k + m = ts.length ∧ i = .int .i64 k ∧ Below w1.heap.size w1 wr ∧ ∃ xs, wr.ownsRow w1.heap.size 3 1 out (nf ts k) xs)
  case atStart => exact ⟨0, by omega, rfl, Below.refl _ _, [], World.ownsRow_nil _ _ _ _⟩
  case round =>
    obtain ⟨k, hmm, rfl, hB, xs, hown⟩ := hrel
    by_cases hlt : k < ts.length
    · obtain ⟨q, hq⟩ : ∃ q, ts[k]? = some q := ⟨_, List.getElem?_eq_getElem hlt⟩
      have hlti : (k : Int) < (ts.length : Int) := by omega
      have hkl := nf_le ts k
      obtain ⟨a0, a1, a2, a3, a4, a5, a6⟩ := (hm1.t k q hq).step hB
      obtain ⟨X, hX⟩ : ∃ X, wr.alloc (.cells #[.int .i64 q.1.x, .int .i64 q.1.y, .int .i64 q.1.lo, .int .i64 q.1.hi, .int .i64 q.1.tol, .int .i64 q.1.mat, .bool q.1.pin] 85) = X := ⟨_, rfl⟩
      have bX : Below wr.heap.size wr X := hX ▸ (Below.refl _ wr).alloc (Nat.le_refl _) _
      have qX : X.heap[wr.heap.size]? = some (.cells #[.int .i64 q.1.x, .int .i64 q.1.y, .int .i64 q.1.lo, .int .i64 q.1.hi, .int .i64 q.1.tol, .int .i64 q.1.mat, .bool q.1.pin] 85 (0, 0)) := hX ▸ heap_alloc_new wr _
      have BX := Bl.trans hB bX
      have gX := g.below (Bl.trans b1 BX)
      have AA : ∀ W', Below X.heap.size X W' → W'.cell? ⟨wr.heap.size, 0, none⟩ = some (.int .i64 q.1.x) ∧ W'.cell? ⟨wr.heap.size, 1, none⟩ = some (.int .i64 q.1.y) ∧ W'.cell? ⟨wr.heap.size, 2, none⟩ = some (.int .i64 q.1.lo) ∧ W'.cell? ⟨wr.heap.size, 3, none⟩ = some (.int .i64 q.1.hi) ∧ W'.cell? ⟨wr.heap.size, 4, none⟩ = some (.int .i64 q.1.tol) ∧ W'.cell? ⟨wr.heap.size, 5, none⟩ = some (.int .i64 q.1.mat) ∧ W'.cell? ⟨wr.heap.size, 6, none⟩ = some (.bool q.1.pin) := fun W' hw => by
        have q5 := blk_below qX hw
        exact ⟨cell_of_row W' _ 0 _ _ _ q5, cell_of_row W' _ 1 _ _ _ q5, cell_of_row W' _ 2 _ _ _ q5, cell_of_row W' _ 3 _ _ _ q5, cell_of_row W' _ 4 _ _ _ q5, cell_of_row W' _ 5 _ _ _ q5, cell_of_row W' _ 6 _ _ _ q5⟩
      have DD : ∀ W', Below X.heap.size X W' → CA W' b' o' k q.2 := fun W' hw => ((hm1.c k q hq).step BX).step hw
      have GG := fun w g => bgood_c (hT q (List.mem_of_getElem? hq)) (hC q (List.mem_of_getElem? hq)) (hW q (List.mem_of_getElem? hq)) w g
      have hns := nf_succ hq
      unfold tcells ccells at GG
      have AA := Lib.hid AA
      have DD := Lib.hid DD
      have HM := Lib.hid hmm
      clear hW hT hC hmm hm1 hq qX
      cases hgd : decide (gd q.1 q.2) with
      | true =>
        rw [hgd] at GG
        rw [if_pos (of_decide_eq_true hgd), Nat.add_zero] at hns
        have HN := Lib.hid hns
        have HO := Lib.hid hown
        clear hns hown hgd
        go_wp2_with fail
        clear hX a0 a1 a2 a3 a4 a5 a6
        refine Reg.walk (by kernel_rfl) 7 (by kernel_rfl) (by decide) (by kernel_rfl) (fun _ => false) (fun _ => [(some 23, .agg #[.int .i64 q.1.x, .int .i64 q.1.y, .int .i64 q.1.lo, .int .i64 q.1.hi, .int .i64 q.1.tol, .int .i64 q.1.mat, .bool q.1.pin]), (some 24, .slice (some ⟨b', o', none⟩) ts.length cp'), (some 25, .int .i64 (k : Nat)), (some 26, .pointer (some ⟨b', o' + k * 3, none⟩)), (some 27, .agg #[.int .i64 q.2.x, .int .i64 q.2.y, .int .i64 q.2.n]), (some 28, .bool true), (some 29, .bool false)])
          (fun _ => rfl) (fun _ _ _ => rfl) (fun _ _ _ h => by cases h) (fun _ _ _ => True) (fun _ _ _ _ _ _ => trivial)
          (fun W' => Below X.heap.size X W')
          ((Below.refl _ X).drew) ?_ ?_
        · intro i o hi ho Q' a w' hw hon hoff K hK
          match i, hi with
          | 0, _ =>
            obtain rfl := Option.some.inj ho
            clear ho
            have o9 : a.tmps[9]?.getD undef = .pointer (some ⟨wr.heap.size, 0, none⟩) := hoff 9 (by kernel_rfl)
            clear hon hoff
            rw [if_pos (by rfl)]
            obtain ⟨a0, a1, a2, a3, a4, a5, a6⟩ := AA.out _ hw
            go_simp
            exact hK _ _ rfl hw (Below.refl _ _)
          | 1, _ =>
            obtain rfl := Option.some.inj ho
            clear ho
            have o1 : a.tmps[1]?.getD undef = .slice (some ⟨b', o', none⟩) ts.length cp' := hoff 1 (by kernel_rfl)
            clear hon hoff
            rw [if_pos (by rfl)]
            go_simp
            exact hK _ _ rfl hw (Below.refl _ _)
          | 2, _ =>
            obtain rfl := Option.some.inj ho
            clear ho
            have o8 : a.tmps[8]?.getD undef = .int .i64 (k : Nat) := hoff 8 (by kernel_rfl)
            clear hon hoff
            rw [if_pos (by rfl)]
            go_simp
            exact hK _ _ rfl hw (Below.refl _ _)
          | 3, _ =>
            obtain rfl := Option.some.inj ho
            clear ho
            have o24 : a.tmps[24]?.getD undef = .slice (some ⟨b', o', none⟩) ts.length cp' := (Option.some.inj (hon 1 _ _ (by kernel_rfl) (by decide) rfl rfl rfl)).symm
            have o25 : a.tmps[25]?.getD undef = .int .i64 (k : Nat) := (Option.some.inj (hon 2 _ _ (by kernel_rfl) (by decide) rfl rfl rfl)).symm
            clear hon hoff
            rw [if_pos (by rfl)]
            go_simp
            exact hK _ _ rfl hw (Below.refl _ _)
          | 4, _ =>
            obtain rfl := Option.some.inj ho
            clear ho
            have o26 : a.tmps[26]?.getD undef = .pointer (some ⟨b', o' + k * 3, none⟩) := (Option.some.inj (hon 3 _ _ (by kernel_rfl) (by decide) rfl rfl rfl)).symm
            clear hon hoff
            rw [if_pos (by rfl)]
            obtain ⟨d0, d1, d2⟩ := DD.out _ hw
            go_simp
            exact hK _ _ rfl hw (Below.refl _ _)
          | 5, _ =>
            obtain rfl := Option.some.inj ho
            clear ho
            have o23 : a.tmps[23]?.getD undef = .agg #[.int .i64 q.1.x, .int .i64 q.1.y, .int .i64 q.1.lo, .int .i64 q.1.hi, .int .i64 q.1.tol, .int .i64 q.1.mat, .bool q.1.pin] := (Option.some.inj (hon 0 _ _ (by kernel_rfl) (by decide) rfl rfl rfl)).symm
            have o27 : a.tmps[27]?.getD undef = .agg #[.int .i64 q.2.x, .int .i64 q.2.y, .int .i64 q.2.n] := (Option.some.inj (hon 4 _ _ (by kernel_rfl) (by decide) rfl rfl rfl)).symm
            clear hon hoff
            rw [if_pos (by rfl)]
            go_simp
            refine (GG _ (gX.below hw)).mono ?_
            rintro e w1 ⟨rfl, b1⟩
            exact hK _ _ rfl (Bl.trans hw b1) b1
          | 6, _ =>
            obtain rfl := Option.some.inj ho
            clear ho
            have o28 : a.tmps[28]?.getD undef = .bool true := (Option.some.inj (hon 5 _ _ (by kernel_rfl) (by decide) rfl rfl rfl)).symm
            clear hon hoff
            rw [if_pos (by rfl)]
            go_simp
            exact hK _ _ rfl hw (Below.refl _ _)
          | i + 7, h => exact absurd h (by omega)
        · intro g2 w' hw _ _
          simp only [List.drop_succ_cons, List.drop_zero, Reg.puts, Act.put, List.setIfInBounds_toArray, List.set_cons_succ, List.set_cons_zero]
          go_wp2_with fail
          go_roundg (gk - 1)
          case measure => have := HM.out; omega
          case rel => exact ⟨k + 1, by have := HM.out; omega, by go_num, Bl.trans BX hw, xs, by rw [HN.out]; exact owns_below (owns_below HO.out bX) hw⟩
      | false =>
        rw [hgd] at GG
        rw [if_neg (of_decide_eq_false hgd)] at hns
        have HN := Lib.hid hns
        have own1 := owns_below hown bX
        have HO := Lib.hid own1
        clear hns hown hgd own1
        go_wp2_with fail
        clear hX a0 a1 a2 a3 a4 a5 a6
        refine Reg.walk (by kernel_rfl) 7 (by kernel_rfl) (by decide) (by kernel_rfl) (fun _ => false) (fun _ => [(some 23, .agg #[.int .i64 q.1.x, .int .i64 q.1.y, .int .i64 q.1.lo, .int .i64 q.1.hi, .int .i64 q.1.tol, .int .i64 q.1.mat, .bool q.1.pin]), (some 24, .slice (some ⟨b', o', none⟩) ts.length cp'), (some 25, .int .i64 (k : Nat)), (some 26, .pointer (some ⟨b', o' + k * 3, none⟩)), (some 27, .agg #[.int .i64 q.2.x, .int .i64 q.2.y, .int .i64 q.2.n]), (some 28, .bool false), (some 29, .bool true)])
          (fun _ => rfl) (fun _ _ _ => rfl) (fun _ _ _ h => by cases h) (fun _ _ _ => True) (fun _ _ _ _ _ _ => trivial)
          (fun W' => Below X.heap.size X W')
          ((Below.refl _ X).drew) ?_ ?_
        · intro i o hi ho Q' a w' hw hon hoff K hK
          match i, hi with
          | 0, _ =>
            obtain rfl := Option.some.inj ho
            clear ho
            have o9 : a.tmps[9]?.getD undef = .pointer (some ⟨wr.heap.size, 0, none⟩) := hoff 9 (by kernel_rfl)
            clear hon hoff
            rw [if_pos (by rfl)]
            obtain ⟨a0, a1, a2, a3, a4, a5, a6⟩ := AA.out _ hw
            go_simp
            exact hK _ _ rfl hw (Below.refl _ _)
          | 1, _ =>
            obtain rfl := Option.some.inj ho
            clear ho
            have o1 : a.tmps[1]?.getD undef = .slice (some ⟨b', o', none⟩) ts.length cp' := hoff 1 (by kernel_rfl)
            clear hon hoff
            rw [if_pos (by rfl)]
            go_simp
            exact hK _ _ rfl hw (Below.refl _ _)
          | 2, _ =>
            obtain rfl := Option.some.inj ho
            clear ho
            have o8 : a.tmps[8]?.getD undef = .int .i64 (k : Nat) := hoff 8 (by kernel_rfl)
            clear hon hoff
            rw [if_pos (by rfl)]
            go_simp
            exact hK _ _ rfl hw (Below.refl _ _)
          | 3, _ =>
            obtain rfl := Option.some.inj ho
            clear ho
            have o24 : a.tmps[24]?.getD undef = .slice (some ⟨b', o', none⟩) ts.length cp' := (Option.some.inj (hon 1 _ _ (by kernel_rfl) (by decide) rfl rfl rfl)).symm
            have o25 : a.tmps[25]?.getD undef = .int .i64 (k : Nat) := (Option.some.inj (hon 2 _ _ (by kernel_rfl) (by decide) rfl rfl rfl)).symm
            clear hon hoff
            rw [if_pos (by rfl)]
            go_simp
            exact hK _ _ rfl hw (Below.refl _ _)
          | 4, _ =>
            obtain rfl := Option.some.inj ho
            clear ho
            have o26 : a.tmps[26]?.getD undef = .pointer (some ⟨b', o' + k * 3, none⟩) := (Option.some.inj (hon 3 _ _ (by kernel_rfl) (by decide) rfl rfl rfl)).symm
            clear hon hoff
            rw [if_pos (by rfl)]
            obtain ⟨d0, d1, d2⟩ := DD.out _ hw
            go_simp
            exact hK _ _ rfl hw (Below.refl _ _)
          | 5, _ =>
            obtain rfl := Option.some.inj ho
            clear ho
            have o23 : a.tmps[23]?.getD undef = .agg #[.int .i64 q.1.x, .int .i64 q.1.y, .int .i64 q.1.lo, .int .i64 q.1.hi, .int .i64 q.1.tol, .int .i64 q.1.mat, .bool q.1.pin] := (Option.some.inj (hon 0 _ _ (by kernel_rfl) (by decide) rfl rfl rfl)).symm
            have o27 : a.tmps[27]?.getD undef = .agg #[.int .i64 q.2.x, .int .i64 q.2.y, .int .i64 q.2.n] := (Option.some.inj (hon 4 _ _ (by kernel_rfl) (by decide) rfl rfl rfl)).symm
            clear hon hoff
            rw [if_pos (by rfl)]
            go_simp
            refine (GG _ (gX.below hw)).mono ?_
            rintro e w1 ⟨rfl, b1⟩
            exact hK _ _ rfl (Bl.trans hw b1) b1
          | 6, _ =>
            obtain rfl := Option.some.inj ho
            clear ho
            have o28 : a.tmps[28]?.getD undef = .bool false := (Option.some.inj (hon 5 _ _ (by kernel_rfl) (by decide) rfl rfl rfl)).symm
            clear hon hoff
            rw [if_pos (by rfl)]
            go_simp
            exact hK _ _ rfl hw (Below.refl _ _)
          | i + 7, h => exact absurd h (by omega)
        · intro g2 w' hw _ _
          simp only [List.drop_succ_cons, List.drop_zero, Reg.puts, Act.put, List.setIfInBounds_toArray, List.set_cons_succ, List.set_cons_zero]
          have bb := (Below.refl w'.heap.size w').alloc (Nat.le_refl _) (.cells #[.int .i64 (k : Nat)] 3)
          have own4 := owns_below (owns_below HO.out hw) bb
          have qn := heap_alloc_new w' (.cells #[.int .i64 (k : Nat)] 3)
          have B5 := Bl.trans (Bl.trans BX hw) bb
          clear AA DD GG
          go_wp2_with (at_builtin; refine wpList_append_lies _ rfl _ _ _ rfl w1.heap.size 3 di dz 1 8 Tryz.underlying59 hi0 hz0 hs0 hb0 hc0 (by decide) _ (nf ts k) _ rfl own4 ⟨w'.heap.size, 0, none⟩ 1 1 [.int .i64 (k : Nat)] rfl rfl (World.news_of_block qn) (by simp [Value.oneCell']) (by decide) (by unfold maxLen; omega) (by omega) B5.size (w'.heap.size + 1) (by simp) ?_; intro g2 cap w5 hown5 hgrow hat hlt5)
          go_roundg (gk - 1)
          case measure => have := HM.out; omega
          case rel => exact ⟨k + 1, by have := HM.out; omega, by go_num, B5.grown hgrow B5.size (fun j e => (own4.lt j e).1), _, by rw [HN.out]; exact hown5⟩
    · have hk : k = ts.length := by omega
      clear hlt hmm
      subst hk
      obtain ⟨p, cap, rfl⟩ := owns_slice hown
      clear hW hT hC hm1
      go_wp2_with fail
      go_ret2
      exact ⟨⟨p, cap, rfl⟩, Bl.trans b1 hB⟩
end Go.Proofs.YtdknneofiefieaaGreatDoor
