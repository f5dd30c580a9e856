import Derived.Deep.RegionHeld3
import Derived.Test.YtdknneofiefieaaGreatDoorGp
import Derived.Test.YtdknneofiefieaaGreatDoorGo
import Derived.Test.YtdknneofiefieaaGreatDoorGc
import Derived.Test.YtdknneofiefieaaGreatDoorGb

namespace Go.Proofs.YtdknneofiefieaaGreatDoor
open Go.RowKit Go.Lib Dec Wd Rt Geo

set_option maxRecDepth 100000 in
set_option maxHeartbeats 2000000 in
theorem ddot_c {N : Nat} {ax ay bx by' : Rat} (h1 : Sm N ax) (h2 : Sm N ay) (h3 : Sm N bx) (h4 : Sm N by') (h5 : Sm N (ax * bx)) (h6 : Sm N (ay * by')) (hN : N + N < 1024) (p : Nat) (w : World) (hS : Sd p w) :
    Calls Tryz.prog 126 #[.pointer (some ⟨p, 0, none⟩), .agg #[.string (rt ax), .string (rt ay)], .agg #[.string (rt bx), .string (rt by')]] w (RB (.string (rt (ax * bx + ay * by'))) w) := by
  have H1 := fun w s => dmul_c h1 h3 hN p w s
  have H2 := fun w s => dmul_c h2 h4 hN p w s
  have H3 := fun w s => dadd_c h5 h6 hN p w s
  clear h1 h2 h3 h4 h5 h6
  generalize rt ax = t1 at *
  generalize rt ay = t2 at *
  generalize rt bx = t3 at *
  generalize rt by' = t4 at *
  generalize rt (ax * bx) = t5 at *
  generalize rt (ay * by') = t6 at *
  generalize rt (ax * bx + ay * by') = t7 at *
  obtain ⟨W, hW⟩ : ∃ W, (w.alloc (.cells #[.string t1, .string t2] 41)).alloc (.cells #[.string t3, .string t4] 41) = W := ⟨_, rfl⟩
  have x0 : Bw p w _ W := hW ▸ Bw.box2 hS _ _
  go_enter Tryz.func126, Tryz.ntmps126
  go_wp2_with fail
  clear hW
  refine Reg.walk (by kernel_rfl) 14 (by kernel_rfl) (by decide) (by kernel_rfl) (fun _ => false) (fun _ => [(some 7, .pointer (some ⟨p, 0, none⟩)), (some 8, .pointer (some ⟨p, 0, none⟩)), (some 9, .pointer (some ⟨w.heap.size, 0, none⟩)), (some 10, .string t1), (some 11, .pointer (some ⟨w.heap.size + 1, 0, none⟩)), (some 12, .string t3), (some 13, .string t5), (some 14, .pointer (some ⟨p, 0, none⟩)), (some 15, .pointer (some ⟨w.heap.size, 1, none⟩)), (some 16, .string t2), (some 17, .pointer (some ⟨w.heap.size + 1, 1, none⟩)), (some 18, .string t4), (some 19, .string t6), (some 20, .string t7)])
    (fun _ => rfl) (fun _ _ _ => rfl) (fun _ _ _ h => by cases h) (fun _ _ _ => True) (fun _ _ _ _ _ _ => trivial)
    (fun W' => Bw p w [(w.heap.size + 1, .cells #[.string t3, .string t4] 41), (w.heap.size, .cells #[.string t1, .string t2] 41)] W')
    (x0.drew) ?_ ?_
  · intro i o hi ho Q' a w' hw hon hoff K hK
    match i, hi with
    | 0, _ =>
      obtain rfl := Option.some.inj ho
      clear ho
      have o0 : a.tmps[0]?.getD undef = .pointer (some ⟨p, 0, none⟩) := hoff 0 (by kernel_rfl)
      clear hon hoff
      rw [if_pos (by rfl)]
      go_simp
      exact hK _ _ rfl hw (Below.refl _ _)
    | 1, _ =>
      obtain rfl := Option.some.inj ho
      clear ho
      have o0 : a.tmps[0]?.getD undef = .pointer (some ⟨p, 0, none⟩) := hoff 0 (by kernel_rfl)
      clear hon hoff
      rw [if_pos (by rfl)]
      go_simp
      exact hK _ _ rfl hw (Below.refl _ _)
    | 2, _ =>
      obtain rfl := Option.some.inj ho
      clear ho
      have o4 : a.tmps[4]?.getD undef = .pointer (some ⟨w.heap.size, 0, none⟩) := hoff 4 (by kernel_rfl)
      clear hon hoff
      rw [if_pos (by rfl)]
      go_simp
      exact hK _ _ rfl hw (Below.refl _ _)
    | 3, _ =>
      obtain rfl := Option.some.inj ho
      clear ho
      have o9 : a.tmps[9]?.getD undef = .pointer (some ⟨w.heap.size, 0, none⟩) := (Option.some.inj (hon 2 _ _ (by kernel_rfl) (by decide) rfl rfl rfl)).symm
      clear hon hoff
      rw [if_pos (by rfl)]
      have c0_0 := hw.cell 0 rfl 0 rfl
      have c0_1 := hw.cell 0 rfl 1 rfl
      have c1_0 := hw.cell 1 rfl 0 rfl
      have c1_1 := hw.cell 1 rfl 1 rfl
      go_simp
      exact hK _ _ rfl hw (Below.refl _ _)
    | 4, _ =>
      obtain rfl := Option.some.inj ho
      clear ho
      have o5 : a.tmps[5]?.getD undef = .pointer (some ⟨w.heap.size + 1, 0, none⟩) := hoff 5 (by kernel_rfl)
      clear hon hoff
      rw [if_pos (by rfl)]
      go_simp
      exact hK _ _ rfl hw (Below.refl _ _)
    | 5, _ =>
      obtain rfl := Option.some.inj ho
      clear ho
      have o11 : a.tmps[11]?.getD undef = .pointer (some ⟨w.heap.size + 1, 0, none⟩) := (Option.some.inj (hon 4 _ _ (by kernel_rfl) (by decide) rfl rfl rfl)).symm
      clear hon hoff
      rw [if_pos (by rfl)]
      have c0_0 := hw.cell 0 rfl 0 rfl
      have c0_1 := hw.cell 0 rfl 1 rfl
      have c1_0 := hw.cell 1 rfl 0 rfl
      have c1_1 := hw.cell 1 rfl 1 rfl
      go_simp
      exact hK _ _ rfl hw (Below.refl _ _)
    | 6, _ =>
      obtain rfl := Option.some.inj ho
      clear ho
      have o8 : a.tmps[8]?.getD undef = .pointer (some ⟨p, 0, none⟩) := (Option.some.inj (hon 1 _ _ (by kernel_rfl) (by decide) rfl rfl rfl)).symm
      have o10 : a.tmps[10]?.getD undef = .string t1 := (Option.some.inj (hon 3 _ _ (by kernel_rfl) (by decide) rfl rfl rfl)).symm
      have o12 : a.tmps[12]?.getD undef = .string t3 := (Option.some.inj (hon 5 _ _ (by kernel_rfl) (by decide) rfl rfl rfl)).symm
      clear hon hoff
      rw [if_pos (by rfl)]
      go_simp
      refine (H1 _ hw.s).mono ?_
      rintro e w1 ⟨rfl, b1⟩
      exact hK _ _ rfl (hw.step b1) b1
    | 7, _ =>
      obtain rfl := Option.some.inj ho
      clear ho
      have o0 : a.tmps[0]?.getD undef = .pointer (some ⟨p, 0, none⟩) := hoff 0 (by kernel_rfl)
      clear hon hoff
      rw [if_pos (by rfl)]
      go_simp
      exact hK _ _ rfl hw (Below.refl _ _)
    | 8, _ =>
      obtain rfl := Option.some.inj ho
      clear ho
      have o4 : a.tmps[4]?.getD undef = .pointer (some ⟨w.heap.size, 0, none⟩) := hoff 4 (by kernel_rfl)
      clear hon hoff
      rw [if_pos (by rfl)]
      go_simp
      exact hK _ _ rfl hw (Below.refl _ _)
    | 9, _ =>
      obtain rfl := Option.some.inj ho
      clear ho
      have o15 : a.tmps[15]?.getD undef = .pointer (some ⟨w.heap.size, 1, none⟩) := (Option.some.inj (hon 8 _ _ (by kernel_rfl) (by decide) rfl rfl rfl)).symm
      clear hon hoff
      rw [if_pos (by rfl)]
      have c0_0 := hw.cell 0 rfl 0 rfl
      have c0_1 := hw.cell 0 rfl 1 rfl
      have c1_0 := hw.cell 1 rfl 0 rfl
      have c1_1 := hw.cell 1 rfl 1 rfl
      go_simp
      exact hK _ _ rfl hw (Below.refl _ _)
    | 10, _ =>
      obtain rfl := Option.some.inj ho
      clear ho
      have o5 : a.tmps[5]?.getD undef = .pointer (some ⟨w.heap.size + 1, 0, none⟩) := hoff 5 (by kernel_rfl)
      clear hon hoff
      rw [if_pos (by rfl)]
      go_simp
      exact hK _ _ rfl hw (Below.refl _ _)
    | 11, _ =>
      obtain rfl := Option.some.inj ho
      clear ho
      have o17 : a.tmps[17]?.getD undef = .pointer (some ⟨w.heap.size + 1, 1, none⟩) := (Option.some.inj (hon 10 _ _ (by kernel_rfl) (by decide) rfl rfl rfl)).symm
      clear hon hoff
      rw [if_pos (by rfl)]
      have c0_0 := hw.cell 0 rfl 0 rfl
      have c0_1 := hw.cell 0 rfl 1 rfl
      have c1_0 := hw.cell 1 rfl 0 rfl
      have c1_1 := hw.cell 1 rfl 1 rfl
      go_simp
      exact hK _ _ rfl hw (Below.refl _ _)
    | 12, _ =>
      obtain rfl := Option.some.inj ho
      clear ho
      have o14 : a.tmps[14]?.getD undef = .pointer (some ⟨p, 0, none⟩) := (Option.some.inj (hon 7 _ _ (by kernel_rfl) (by decide) rfl rfl rfl)).symm
      have o16 : a.tmps[16]?.getD undef = .string t2 := (Option.some.inj (hon 9 _ _ (by kernel_rfl) (by decide) rfl rfl rfl)).symm
      have o18 : a.tmps[18]?.getD undef = .string t4 := (Option.some.inj (hon 11 _ _ (by kernel_rfl) (by decide) rfl rfl rfl)).symm
      clear hon hoff
      rw [if_pos (by rfl)]
      go_simp
      refine (H2 _ hw.s).mono ?_
      rintro e w1 ⟨rfl, b1⟩
      exact hK _ _ rfl (hw.step b1) b1
    | 13, _ =>
      obtain rfl := Option.some.inj ho
      clear ho
      have o7 : a.tmps[7]?.getD undef = .pointer (some ⟨p, 0, none⟩) := (Option.some.inj (hon 0 _ _ (by kernel_rfl) (by decide) rfl rfl rfl)).symm
      have o13 : a.tmps[13]?.getD undef = .string t5 := (Option.some.inj (hon 6 _ _ (by kernel_rfl) (by decide) rfl rfl rfl)).symm
      have o19 : a.tmps[19]?.getD undef = .string t6 := (Option.some.inj (hon 12 _ _ (by kernel_rfl) (by decide) rfl rfl rfl)).symm
      clear hon hoff
      rw [if_pos (by rfl)]
      go_simp
      refine (H3 _ hw.s).mono ?_
      rintro e w1 ⟨rfl, b1⟩
      exact hK _ _ rfl (hw.step b1) b1
    | i + 14, h => exact absurd h (by omega)
  · intro g w' hw _ _
    simp only [List.drop_succ_cons, List.drop_zero, Reg.puts, Act.put, List.setIfInBounds_toArray, List.set_cons_succ, List.set_cons_zero]
    go_wp2_with fail
    go_ret
    exact ⟨rfl, hw.b⟩

set_option maxRecDepth 100000 in
set_option maxHeartbeats 2000000 in
theorem dfar_c {N : Nat} {ax ay bx by' : Rat} (h1 : Sm N ax) (h2 : Sm N ay) (h3 : Sm N bx) (h4 : Sm N by') (h5 : Sm N (ax - bx)) (h6 : Sm N (ay - by'))
    (h7 : Sm N ((ax - bx) * (ax - bx))) (h8 : Sm N ((ay - by') * (ay - by'))) (hN : N + N < 1024) (p : Nat) (w : World) (hS : Sd p w) :
    Calls Tryz.prog 82 #[.pointer (some ⟨p, 0, none⟩), .agg #[.string (rt ax), .string (rt ay)], .agg #[.string (rt bx), .string (rt by')]] w
      (RB (.string (rt ((ax - bx) * (ax - bx) + (ay - by') * (ay - by')))) w) := by
  have H1 := fun w s => dless_c h1 h2 h3 h4 hN p w s
  have H2 := fun w s => ddot_c h5 h6 h5 h6 h7 h8 hN p w s
  clear h1 h2 h3 h4 h5 h6 h7 h8
  generalize rt ((ax - bx) * (ax - bx) + (ay - by') * (ay - by')) = t7 at *
  generalize rt (ax - bx) = t5 at *
  generalize rt (ay - by') = t6 at *
  generalize rt ax = t1 at *
  generalize rt ay = t2 at *
  generalize rt bx = t3 at *
  generalize rt by' = t4 at *
  obtain ⟨W, hW⟩ : ∃ W, (w.alloc (.cells #[.string t1, .string t2] 41)).alloc (.cells #[.string t3, .string t4] 41) = W := ⟨_, rfl⟩
  have x0 : Bw p w _ W := hW ▸ Bw.box2 hS _ _
  have c1 := x0.cell 0 rfl 0 rfl
  have c2 := x0.cell 0 rfl 1 rfl
  have c3 := x0.cell 1 rfl 0 rfl
  have c4 := x0.cell 1 rfl 1 rfl
  go_enter Tryz.func82, Tryz.ntmps82
  go_wp2_with fail
  refine (H1 _ x0.s).mono ?_
  rintro e w1 ⟨rfl, b1⟩
  have x1 := x0.step b1
  have x2 := x1.new (.cells #[.string t5, .string t6] 41)
  go_wp2_with fail
  refine (H2 _ x2.s).mono ?_
  rintro e w2 ⟨rfl, b2⟩
  go_wp2_with fail
  go_ret
  exact ⟨rfl, (x2.step b2).b⟩

set_option maxRecDepth 100000 in
set_option maxHeartbeats 2000000 in
theorem droot_c {a b c : Rat} (ha : Sm 80 a) (hb : Sm 80 b) (hc : Sm 80 c) (h0 : 0 ≤ c) (p : Nat) (w : World) (hS : Sd p w) :
    Calls Tryz.prog 123 #[.pointer (some ⟨p, 0, none⟩), .string (rt a), .string (rt b), .string (rt c)] w (RB (.int .i64 (rsg a b c)) w) := by
  have c0 := hS.cell
  have H1 := sroot1_c ha hb hc h0 w hS.g
  clear ha hb hc h0
  generalize rsg a b c = rs at *
  go_enter Tryz.func123, Tryz.ntmps123
  go_wp2_with fail
  refine H1.mono ?_
  rintro e w1 ⟨rfl, b1⟩
  have s1 := hS.below b1
  have c1 := s1.cell
  have c2 := s1.frozen
  go_wp2_with fail
  go_ret
  exact ⟨rfl, Bl.trans b1 s1.same⟩

theorem sm_zero (N : Nat) (hN : 0 < N) : Sm N 0 := ⟨Nat.pow_pos (by decide), Nat.one_lt_pow (by omega) (by decide)⟩

set_option maxRecDepth 100000 in
set_option maxHeartbeats 2000000 in
theorem dorder_c {N : Nat} {a b : Rat} (ha : Sm N a) (hb : Sm N b) (hN : N + N < 1024) (hd : Sm 80 (a - b)) (p : Nat) (w : World) (hS : Sd p w) :
    Calls Tryz.prog 81 #[.pointer (some ⟨p, 0, none⟩), .string (rt a), .string (rt b)] w (RB (.int .i64 (sg (a - b))) w) := by
  have H1 := fun w s => dsub_c ha hb hN p w s
  have H2 := fun w s => droot_c hd (sm_zero 80 (by decide)) (sm_zero 80 (by decide)) (by decide) p w s
  rw [sg_zero_r, ← rt_zero'] at H2
  clear ha hb hd
  go_enter Tryz.func81, Tryz.ntmps81
  go_wp2_with fail
  refine (H1 _ hS).mono ?_
  rintro e w1 ⟨rfl, b1⟩
  have s1 := hS.below b1
  go_wp2_with fail
  refine (H2 _ s1).mono ?_
  rintro e w2 ⟨rfl, b2⟩
  go_wp2_with fail
  go_ret
  exact ⟨rfl, Bl.trans b1 b2⟩
end Go.Proofs.YtdknneofiefieaaGreatDoor

namespace Go.Proofs.YtdknneofiefieaaGreatDoor
open Go.RowKit Go.Lib Dec Rt Geo

def dcell (d : Dc) : Array Value := #[.string (rt d.x), .string (rt d.y), .string (rt d.s)]
def pcells (fx fy ax ay h : Rat) : Array Value := #[.string (rt fx), .string (rt fy), .string (rt ax), .string (rt ay), .string (rt h)]
theorem rt_two : (⟨#[50]⟩ : ByteArray) = rt 2 := by decide +kernel

set_option maxRecDepth 100000 in
set_option maxHeartbeats 2000000 in
theorem keeps_walk {t1 t2 t3 t4 t5 t6 t7 t8 tmx tmy tmm taa tha tx0 txs tbb tb : ByteArray} {rs : Int} (p : Nat) (w : World) (hS : Sd p w)
    (M : ∀ w, Sd p w → Calls Tryz.prog 125 #[.pointer (some ⟨p, 0, none⟩), .agg #[.string t4, .string t5], .agg #[.string t1, .string t2]] w (RB (.agg #[.string tmx, .string tmy]) w))
    (D1 : ∀ w, Sd p w → Calls Tryz.prog 126 #[.pointer (some ⟨p, 0, none⟩), .agg #[.string tmx, .string tmy], .agg #[.string tmx, .string tmy]] w (RB (.string tmm) w))
    (D2 : ∀ w, Sd p w → Calls Tryz.prog 126 #[.pointer (some ⟨p, 0, none⟩), .agg #[.string t6, .string t7], .agg #[.string t6, .string t7]] w (RB (.string taa) w))
    (U1 : ∀ w, Sd p w → Calls Tryz.prog 169 #[.pointer (some ⟨p, 0, none⟩), .string t8, .string taa] w (RB (.string tha) w))
    (A1 : ∀ w, Sd p w → Calls Tryz.prog 168 #[.pointer (some ⟨p, 0, none⟩), .string tmm, .string tha] w (RB (.string tx0) w))
    (B1 : ∀ w, Sd p w → Calls Tryz.prog 124 #[.pointer (some ⟨p, 0, none⟩), .string tx0, .string t3] w (RB (.string txs) w))
    (D3 : ∀ w, Sd p w → Calls Tryz.prog 126 #[.pointer (some ⟨p, 0, none⟩), .agg #[.string tmx, .string tmy], .agg #[.string t6, .string t7]] w (RB (.string tbb) w))
    (U2 : ∀ w, Sd p w → Calls Tryz.prog 169 #[.pointer (some ⟨p, 0, none⟩), .string ⟨#[50]⟩, .string tbb] w (RB (.string tb) w))
    (R : ∀ w, Sd p w → Calls Tryz.prog 123 #[.pointer (some ⟨p, 0, none⟩), .string txs, .string tb, .string t8] w (RB (.int .i64 rs) w)) :
    Calls Tryz.prog 139 #[.pointer (some ⟨p, 0, none⟩), .agg #[.string t1, .string t2, .string t3], .agg #[.string t4, .string t5, .string t6, .string t7, .string t8]] w (RB (.bool (decide (rs ≤ 0))) w) := by
  obtain ⟨W, hW⟩ : ∃ W, (w.alloc (.cells #[.string t1, .string t2, .string t3] 43)).alloc (.cells #[.string t4, .string t5, .string t6, .string t7, .string t8] 199) = W := ⟨_, rfl⟩
  have x0 : Bw p w _ W := hW ▸ Bw.box2 hS _ _
  have c1 := x0.cell 1 rfl 0 rfl
  have c2 := x0.cell 1 rfl 1 rfl
  have c4 := x0.cell 0 rfl 0 rfl
  have c5 := x0.cell 0 rfl 1 rfl
  go_enter Tryz.func139, Tryz.ntmps139
  go_wp2_with fail
  clear hW
  refine (M _ x0.s).mono ?_
  rintro e w1 ⟨rfl, b1⟩
  have x1 := x0.step b1
  have x2 := x1.new (.cells #[.string tmx, .string tmy] 41)
  clear x0 c1 c2 c4 c5
  go_wp2_with fail
  refine Reg.walk (by kernel_rfl) 16 (by kernel_rfl) (by decide) (by kernel_rfl) (fun _ => false) (fun _ => [(some 15, .pointer (some ⟨p, 0, none⟩)), (some 16, .pointer (some ⟨p, 0, none⟩)), (some 17, .agg #[.string tmx, .string tmy]), (some 18, .agg #[.string tmx, .string tmy]), (some 19, .string tmm), (some 20, .pointer (some ⟨p, 0, none⟩)), (some 21, .pointer (some ⟨w.heap.size + 1, 4, none⟩)), (some 22, .string t8), (some 23, .pointer (some ⟨p, 0, none⟩)), (some 24, .pointer (some ⟨w.heap.size + 1, 2, none⟩)), (some 25, .agg #[.string t6, .string t7]), (some 26, .pointer (some ⟨w.heap.size + 1, 2, none⟩)), (some 27, .agg #[.string t6, .string t7]), (some 28, .string taa), (some 29, .string tha), (some 30, .string tx0)])
    (fun _ => rfl) (fun _ _ _ => rfl) (fun _ _ _ h => by cases h) (fun _ _ _ => True) (fun _ _ _ _ _ _ => trivial)
    (fun W' => Bw p w [(w1.heap.size, .cells #[.string tmx, .string tmy] 41), (w.heap.size + 1, .cells #[.string t4, .string t5, .string t6, .string t7, .string t8] 199), (w.heap.size, .cells #[.string t1, .string t2, .string t3] 43)] W')
    (x2.drew) ?_ ?_
  · intro i o hi ho Q' a w' hw hon hoff K hK
    match i, hi with
    | 0, _ =>
      obtain rfl := Option.some.inj ho
      clear ho
      have o0 : a.tmps[0]?.getD undef = .pointer (some ⟨p, 0, none⟩) := hoff 0 (by kernel_rfl)
      clear hon hoff
      rw [if_pos (by rfl)]
      go_simp
      exact hK _ _ rfl hw (Below.refl _ _)
    | 1, _ =>
      obtain rfl := Option.some.inj ho
      clear ho
      have o0 : a.tmps[0]?.getD undef = .pointer (some ⟨p, 0, none⟩) := hoff 0 (by kernel_rfl)
      clear hon hoff
      rw [if_pos (by rfl)]
      go_simp
      exact hK _ _ rfl hw (Below.refl _ _)
    | 2, _ =>
      obtain rfl := Option.some.inj ho
      clear ho
      have o7 : a.tmps[7]?.getD undef = .pointer (some ⟨w1.heap.size, 0, none⟩) := hoff 7 (by kernel_rfl)
      clear hon hoff
      rw [if_pos (by rfl)]
      have c0_0 := hw.cell 0 rfl 0 rfl
      have c0_1 := hw.cell 0 rfl 1 rfl
      have c1_2 := hw.cell 1 rfl 2 rfl
      have c1_3 := hw.cell 1 rfl 3 rfl
      have c1_4 := hw.cell 1 rfl 4 rfl
      have c2_2 := hw.cell 2 rfl 2 rfl
      go_simp
      exact hK _ _ rfl hw (Below.refl _ _)
    | 3, _ =>
      obtain rfl := Option.some.inj ho
      clear ho
      have o7 : a.tmps[7]?.getD undef = .pointer (some ⟨w1.heap.size, 0, none⟩) := hoff 7 (by kernel_rfl)
      clear hon hoff
      rw [if_pos (by rfl)]
      have c0_0 := hw.cell 0 rfl 0 rfl
      have c0_1 := hw.cell 0 rfl 1 rfl
      have c1_2 := hw.cell 1 rfl 2 rfl
      have c1_3 := hw.cell 1 rfl 3 rfl
      have c1_4 := hw.cell 1 rfl 4 rfl
      have c2_2 := hw.cell 2 rfl 2 rfl
      go_simp
      exact hK _ _ rfl hw (Below.refl _ _)
    | 4, _ =>
      obtain rfl := Option.some.inj ho
      clear ho
      have o16 : a.tmps[16]?.getD undef = .pointer (some ⟨p, 0, none⟩) := (Option.some.inj (hon 1 _ _ (by kernel_rfl) (by decide) rfl rfl rfl)).symm
      have o17 : a.tmps[17]?.getD undef = .agg #[.string tmx, .string tmy] := (Option.some.inj (hon 2 _ _ (by kernel_rfl) (by decide) rfl rfl rfl)).symm
      have o18 : a.tmps[18]?.getD undef = .agg #[.string tmx, .string tmy] := (Option.some.inj (hon 3 _ _ (by kernel_rfl) (by decide) rfl rfl rfl)).symm
      clear hon hoff
      rw [if_pos (by rfl)]
      go_simp
      refine (D1 _ hw.s).mono ?_
      rintro e w1 ⟨rfl, b1⟩
      exact hK _ _ rfl (hw.step b1) b1
    | 5, _ =>
      obtain rfl := Option.some.inj ho
      clear ho
      have o0 : a.tmps[0]?.getD undef = .pointer (some ⟨p, 0, none⟩) := hoff 0 (by kernel_rfl)
      clear hon hoff
      rw [if_pos (by rfl)]
      go_simp
      exact hK _ _ rfl hw (Below.refl _ _)
    | 6, _ =>
      obtain rfl := Option.some.inj ho
      clear ho
      have o5 : a.tmps[5]?.getD undef = .pointer (some ⟨w.heap.size + 1, 0, none⟩) := hoff 5 (by kernel_rfl)
      clear hon hoff
      rw [if_pos (by rfl)]
      go_simp
      exact hK _ _ rfl hw (Below.refl _ _)
    | 7, _ =>
      obtain rfl := Option.some.inj ho
      clear ho
      have o21 : a.tmps[21]?.getD undef = .pointer (some ⟨w.heap.size + 1, 4, none⟩) := (Option.some.inj (hon 6 _ _ (by kernel_rfl) (by decide) rfl rfl rfl)).symm
      clear hon hoff
      rw [if_pos (by rfl)]
      have c0_0 := hw.cell 0 rfl 0 rfl
      have c0_1 := hw.cell 0 rfl 1 rfl
      have c1_2 := hw.cell 1 rfl 2 rfl
      have c1_3 := hw.cell 1 rfl 3 rfl
      have c1_4 := hw.cell 1 rfl 4 rfl
      have c2_2 := hw.cell 2 rfl 2 rfl
      go_simp
      exact hK _ _ rfl hw (Below.refl _ _)
    | 8, _ =>
      obtain rfl := Option.some.inj ho
      clear ho
      have o0 : a.tmps[0]?.getD undef = .pointer (some ⟨p, 0, none⟩) := hoff 0 (by kernel_rfl)
      clear hon hoff
      rw [if_pos (by rfl)]
      go_simp
      exact hK _ _ rfl hw (Below.refl _ _)
    | 9, _ =>
      obtain rfl := Option.some.inj ho
      clear ho
      have o5 : a.tmps[5]?.getD undef = .pointer (some ⟨w.heap.size + 1, 0, none⟩) := hoff 5 (by kernel_rfl)
      clear hon hoff
      rw [if_pos (by rfl)]
      go_simp
      exact hK _ _ rfl hw (Below.refl _ _)
    | 10, _ =>
      obtain rfl := Option.some.inj ho
      clear ho
      have o24 : a.tmps[24]?.getD undef = .pointer (some ⟨w.heap.size + 1, 2, none⟩) := (Option.some.inj (hon 9 _ _ (by kernel_rfl) (by decide) rfl rfl rfl)).symm
      clear hon hoff
      rw [if_pos (by rfl)]
      have c0_0 := hw.cell 0 rfl 0 rfl
      have c0_1 := hw.cell 0 rfl 1 rfl
      have c1_2 := hw.cell 1 rfl 2 rfl
      have c1_3 := hw.cell 1 rfl 3 rfl
      have c1_4 := hw.cell 1 rfl 4 rfl
      have c2_2 := hw.cell 2 rfl 2 rfl
      go_simp
      exact hK _ _ rfl hw (Below.refl _ _)
    | 11, _ =>
      obtain rfl := Option.some.inj ho
      clear ho
      have o5 : a.tmps[5]?.getD undef = .pointer (some ⟨w.heap.size + 1, 0, none⟩) := hoff 5 (by kernel_rfl)
      clear hon hoff
      rw [if_pos (by rfl)]
      go_simp
      exact hK _ _ rfl hw (Below.refl _ _)
    | 12, _ =>
      obtain rfl := Option.some.inj ho
      clear ho
      have o26 : a.tmps[26]?.getD undef = .pointer (some ⟨w.heap.size + 1, 2, none⟩) := (Option.some.inj (hon 11 _ _ (by kernel_rfl) (by decide) rfl rfl rfl)).symm
      clear hon hoff
      rw [if_pos (by rfl)]
      have c0_0 := hw.cell 0 rfl 0 rfl
      have c0_1 := hw.cell 0 rfl 1 rfl
      have c1_2 := hw.cell 1 rfl 2 rfl
      have c1_3 := hw.cell 1 rfl 3 rfl
      have c1_4 := hw.cell 1 rfl 4 rfl
      have c2_2 := hw.cell 2 rfl 2 rfl
      go_simp
      exact hK _ _ rfl hw (Below.refl _ _)
    | 13, _ =>
      obtain rfl := Option.some.inj ho
      clear ho
      have o23 : a.tmps[23]?.getD undef = .pointer (some ⟨p, 0, none⟩) := (Option.some.inj (hon 8 _ _ (by kernel_rfl) (by decide) rfl rfl rfl)).symm
      have o25 : a.tmps[25]?.getD undef = .agg #[.string t6, .string t7] := (Option.some.inj (hon 10 _ _ (by kernel_rfl) (by decide) rfl rfl rfl)).symm
      have o27 : a.tmps[27]?.getD undef = .agg #[.string t6, .string t7] := (Option.some.inj (hon 12 _ _ (by kernel_rfl) (by decide) rfl rfl rfl)).symm
      clear hon hoff
      rw [if_pos (by rfl)]
      go_simp
      refine (D2 _ hw.s).mono ?_
      rintro e w1 ⟨rfl, b1⟩
      exact hK _ _ rfl (hw.step b1) b1
    | 14, _ =>
      obtain rfl := Option.some.inj ho
      clear ho
      have o20 : a.tmps[20]?.getD undef = .pointer (some ⟨p, 0, none⟩) := (Option.some.inj (hon 5 _ _ (by kernel_rfl) (by decide) rfl rfl rfl)).symm
      have o22 : a.tmps[22]?.getD undef = .string t8 := (Option.some.inj (hon 7 _ _ (by kernel_rfl) (by decide) rfl rfl rfl)).symm
      have o28 : a.tmps[28]?.getD undef = .string taa := (Option.some.inj (hon 13 _ _ (by kernel_rfl) (by decide) rfl rfl rfl)).symm
      clear hon hoff
      rw [if_pos (by rfl)]
      go_simp
      refine (U1 _ hw.s).mono ?_
      rintro e w1 ⟨rfl, b1⟩
      exact hK _ _ rfl (hw.step b1) b1
    | 15, _ =>
      obtain rfl := Option.some.inj ho
      clear ho
      have o15 : a.tmps[15]?.getD undef = .pointer (some ⟨p, 0, none⟩) := (Option.some.inj (hon 0 _ _ (by kernel_rfl) (by decide) rfl rfl rfl)).symm
      have o19 : a.tmps[19]?.getD undef = .string tmm := (Option.some.inj (hon 4 _ _ (by kernel_rfl) (by decide) rfl rfl rfl)).symm
      have o29 : a.tmps[29]?.getD undef = .string tha := (Option.some.inj (hon 14 _ _ (by kernel_rfl) (by decide) rfl rfl rfl)).symm
      clear hon hoff
      rw [if_pos (by rfl)]
      go_simp
      refine (A1 _ hw.s).mono ?_
      rintro e w1 ⟨rfl, b1⟩
      exact hK _ _ rfl (hw.step b1) b1
    | i + 16, h => exact absurd h (by omega)
  · intro g w2 hw _ _
    simp only [List.drop_succ_cons, List.drop_zero, Reg.puts, Act.put, List.setIfInBounds_toArray, List.set_cons_succ, List.set_cons_zero]
    clear M D1 D2 U1 A1 x1 x2 b1
    go_wp2_with fail
    refine Reg.walk (by kernel_rfl) 17 (by kernel_rfl) (by decide) (by kernel_rfl) (fun _ => false) (fun _ => [(some 31, .pointer (some ⟨p, 0, none⟩)), (some 32, .pointer (some ⟨p, 0, none⟩)), (some 33, .string tx0), (some 34, .pointer (some ⟨w.heap.size, 2, none⟩)), (some 35, .string t3), (some 36, .string txs), (some 37, .pointer (some ⟨p, 0, none⟩)), (some 38, .pointer (some ⟨p, 0, none⟩)), (some 39, .agg #[.string tmx, .string tmy]), (some 40, .pointer (some ⟨w.heap.size + 1, 2, none⟩)), (some 41, .agg #[.string t6, .string t7]), (some 42, .string tbb), (some 43, .string tb), (some 44, .pointer (some ⟨w.heap.size + 1, 4, none⟩)), (some 45, .string t8), (some 46, .int .i64 rs), (some 47, .bool (decide (rs ≤ 0)))])
      (fun _ => rfl) (fun _ _ _ => rfl) (fun _ _ _ h => by cases h) (fun _ _ _ => True) (fun _ _ _ _ _ _ => trivial)
      (fun W' => Bw p w [(w1.heap.size, .cells #[.string tmx, .string tmy] 41), (w.heap.size + 1, .cells #[.string t4, .string t5, .string t6, .string t7, .string t8] 199), (w.heap.size, .cells #[.string t1, .string t2, .string t3] 43)] W')
      (hw.drew) ?_ ?_
    · intro i o hi ho Q' a w' hw hon hoff K hK
      match i, hi with
      | 0, _ =>
        obtain rfl := Option.some.inj ho
        clear ho
        have o0 : a.tmps[0]?.getD undef = .pointer (some ⟨p, 0, none⟩) := hoff 0 (by kernel_rfl)
        clear hon hoff
        rw [if_pos (by rfl)]
        go_simp
        exact hK _ _ rfl hw (Below.refl _ _)
      | 1, _ =>
        obtain rfl := Option.some.inj ho
        clear ho
        have o0 : a.tmps[0]?.getD undef = .pointer (some ⟨p, 0, none⟩) := hoff 0 (by kernel_rfl)
        clear hon hoff
        rw [if_pos (by rfl)]
        go_simp
        exact hK _ _ rfl hw (Below.refl _ _)
      | 2, _ =>
        obtain rfl := Option.some.inj ho
        clear ho
        have o8 : a.tmps[8]?.getD undef = .string tx0 := hoff 8 (by kernel_rfl)
        clear hon hoff
        rw [if_pos (by rfl)]
        go_simp
        exact hK _ _ rfl hw (Below.refl _ _)
      | 3, _ =>
        obtain rfl := Option.some.inj ho
        clear ho
        have o4 : a.tmps[4]?.getD undef = .pointer (some ⟨w.heap.size, 0, none⟩) := hoff 4 (by kernel_rfl)
        clear hon hoff
        rw [if_pos (by rfl)]
        go_simp
        exact hK _ _ rfl hw (Below.refl _ _)
      | 4, _ =>
        obtain rfl := Option.some.inj ho
        clear ho
        have o34 : a.tmps[34]?.getD undef = .pointer (some ⟨w.heap.size, 2, none⟩) := (Option.some.inj (hon 3 _ _ (by kernel_rfl) (by decide) rfl rfl rfl)).symm
        clear hon hoff
        rw [if_pos (by rfl)]
        have c0_0 := hw.cell 0 rfl 0 rfl
        have c0_1 := hw.cell 0 rfl 1 rfl
        have c1_2 := hw.cell 1 rfl 2 rfl
        have c1_3 := hw.cell 1 rfl 3 rfl
        have c1_4 := hw.cell 1 rfl 4 rfl
        have c2_2 := hw.cell 2 rfl 2 rfl
        go_simp
        exact hK _ _ rfl hw (Below.refl _ _)
      | 5, _ =>
        obtain rfl := Option.some.inj ho
        clear ho
        have o32 : a.tmps[32]?.getD undef = .pointer (some ⟨p, 0, none⟩) := (Option.some.inj (hon 1 _ _ (by kernel_rfl) (by decide) rfl rfl rfl)).symm
        have o33 : a.tmps[33]?.getD undef = .string tx0 := (Option.some.inj (hon 2 _ _ (by kernel_rfl) (by decide) rfl rfl rfl)).symm
        have o35 : a.tmps[35]?.getD undef = .string t3 := (Option.some.inj (hon 4 _ _ (by kernel_rfl) (by decide) rfl rfl rfl)).symm
        clear hon hoff
        rw [if_pos (by rfl)]
        go_simp
        refine (B1 _ hw.s).mono ?_
        rintro e w1 ⟨rfl, b1⟩
        exact hK _ _ rfl (hw.step b1) b1
      | 6, _ =>
        obtain rfl := Option.some.inj ho
        clear ho
        have o0 : a.tmps[0]?.getD undef = .pointer (some ⟨p, 0, none⟩) := hoff 0 (by kernel_rfl)
        clear hon hoff
        rw [if_pos (by rfl)]
        go_simp
        exact hK _ _ rfl hw (Below.refl _ _)
      | 7, _ =>
        obtain rfl := Option.some.inj ho
        clear ho
        have o0 : a.tmps[0]?.getD undef = .pointer (some ⟨p, 0, none⟩) := hoff 0 (by kernel_rfl)
        clear hon hoff
        rw [if_pos (by rfl)]
        go_simp
        exact hK _ _ rfl hw (Below.refl _ _)
      | 8, _ =>
        obtain rfl := Option.some.inj ho
        clear ho
        have o7 : a.tmps[7]?.getD undef = .pointer (some ⟨w1.heap.size, 0, none⟩) := hoff 7 (by kernel_rfl)
        clear hon hoff
        rw [if_pos (by rfl)]
        have c0_0 := hw.cell 0 rfl 0 rfl
        have c0_1 := hw.cell 0 rfl 1 rfl
        have c1_2 := hw.cell 1 rfl 2 rfl
        have c1_3 := hw.cell 1 rfl 3 rfl
        have c1_4 := hw.cell 1 rfl 4 rfl
        have c2_2 := hw.cell 2 rfl 2 rfl
        go_simp
        exact hK _ _ rfl hw (Below.refl _ _)
      | 9, _ =>
        obtain rfl := Option.some.inj ho
        clear ho
        have o5 : a.tmps[5]?.getD undef = .pointer (some ⟨w.heap.size + 1, 0, none⟩) := hoff 5 (by kernel_rfl)
        clear hon hoff
        rw [if_pos (by rfl)]
        go_simp
        exact hK _ _ rfl hw (Below.refl _ _)
      | 10, _ =>
        obtain rfl := Option.some.inj ho
        clear ho
        have o40 : a.tmps[40]?.getD undef = .pointer (some ⟨w.heap.size + 1, 2, none⟩) := (Option.some.inj (hon 9 _ _ (by kernel_rfl) (by decide) rfl rfl rfl)).symm
        clear hon hoff
        rw [if_pos (by rfl)]
        have c0_0 := hw.cell 0 rfl 0 rfl
        have c0_1 := hw.cell 0 rfl 1 rfl
        have c1_2 := hw.cell 1 rfl 2 rfl
        have c1_3 := hw.cell 1 rfl 3 rfl
        have c1_4 := hw.cell 1 rfl 4 rfl
        have c2_2 := hw.cell 2 rfl 2 rfl
        go_simp
        exact hK _ _ rfl hw (Below.refl _ _)
      | 11, _ =>
        obtain rfl := Option.some.inj ho
        clear ho
        have o38 : a.tmps[38]?.getD undef = .pointer (some ⟨p, 0, none⟩) := (Option.some.inj (hon 7 _ _ (by kernel_rfl) (by decide) rfl rfl rfl)).symm
        have o39 : a.tmps[39]?.getD undef = .agg #[.string tmx, .string tmy] := (Option.some.inj (hon 8 _ _ (by kernel_rfl) (by decide) rfl rfl rfl)).symm
        have o41 : a.tmps[41]?.getD undef = .agg #[.string t6, .string t7] := (Option.some.inj (hon 10 _ _ (by kernel_rfl) (by decide) rfl rfl rfl)).symm
        clear hon hoff
        rw [if_pos (by rfl)]
        go_simp
        refine (D3 _ hw.s).mono ?_
        rintro e w1 ⟨rfl, b1⟩
        exact hK _ _ rfl (hw.step b1) b1
      | 12, _ =>
        obtain rfl := Option.some.inj ho
        clear ho
        have o37 : a.tmps[37]?.getD undef = .pointer (some ⟨p, 0, none⟩) := (Option.some.inj (hon 6 _ _ (by kernel_rfl) (by decide) rfl rfl rfl)).symm
        have o42 : a.tmps[42]?.getD undef = .string tbb := (Option.some.inj (hon 11 _ _ (by kernel_rfl) (by decide) rfl rfl rfl)).symm
        clear hon hoff
        rw [if_pos (by rfl)]
        go_simp
        refine (U2 _ hw.s).mono ?_
        rintro e w1 ⟨rfl, b1⟩
        exact hK _ _ rfl (hw.step b1) b1
      | 13, _ =>
        obtain rfl := Option.some.inj ho
        clear ho
        have o5 : a.tmps[5]?.getD undef = .pointer (some ⟨w.heap.size + 1, 0, none⟩) := hoff 5 (by kernel_rfl)
        clear hon hoff
        rw [if_pos (by rfl)]
        go_simp
        exact hK _ _ rfl hw (Below.refl _ _)
      | 14, _ =>
        obtain rfl := Option.some.inj ho
        clear ho
        have o44 : a.tmps[44]?.getD undef = .pointer (some ⟨w.heap.size + 1, 4, none⟩) := (Option.some.inj (hon 13 _ _ (by kernel_rfl) (by decide) rfl rfl rfl)).symm
        clear hon hoff
        rw [if_pos (by rfl)]
        have c0_0 := hw.cell 0 rfl 0 rfl
        have c0_1 := hw.cell 0 rfl 1 rfl
        have c1_2 := hw.cell 1 rfl 2 rfl
        have c1_3 := hw.cell 1 rfl 3 rfl
        have c1_4 := hw.cell 1 rfl 4 rfl
        have c2_2 := hw.cell 2 rfl 2 rfl
        go_simp
        exact hK _ _ rfl hw (Below.refl _ _)
      | 15, _ =>
        obtain rfl := Option.some.inj ho
        clear ho
        have o31 : a.tmps[31]?.getD undef = .pointer (some ⟨p, 0, none⟩) := (Option.some.inj (hon 0 _ _ (by kernel_rfl) (by decide) rfl rfl rfl)).symm
        have o36 : a.tmps[36]?.getD undef = .string txs := (Option.some.inj (hon 5 _ _ (by kernel_rfl) (by decide) rfl rfl rfl)).symm
        have o43 : a.tmps[43]?.getD undef = .string tb := (Option.some.inj (hon 12 _ _ (by kernel_rfl) (by decide) rfl rfl rfl)).symm
        have o45 : a.tmps[45]?.getD undef = .string t8 := (Option.some.inj (hon 14 _ _ (by kernel_rfl) (by decide) rfl rfl rfl)).symm
        clear hon hoff
        rw [if_pos (by rfl)]
        go_simp
        refine (R _ hw.s).mono ?_
        rintro e w1 ⟨rfl, b1⟩
        exact hK _ _ rfl (hw.step b1) b1
      | 16, _ =>
        obtain rfl := Option.some.inj ho
        clear ho
        have o46 : a.tmps[46]?.getD undef = .int .i64 rs := (Option.some.inj (hon 15 _ _ (by kernel_rfl) (by decide) rfl rfl rfl)).symm
        clear hon hoff
        rw [if_pos (by rfl)]
        go_simp
        exact hK _ _ rfl hw (Below.refl _ _)
      | i + 17, h => exact absurd h (by omega)
    · intro g w3 hw _ _
      simp only [List.drop_succ_cons, List.drop_zero, Reg.puts, Act.put, List.setIfInBounds_toArray, List.set_cons_succ, List.set_cons_zero]
      go_wp2_with fail
      go_ret
      exact ⟨rfl, hw.b⟩

theorem dkeeps_c {d : Dc} {fx fy ax ay h : Rat} (k : KpS d fx fy ax ay h) (p : Nat) (w : World) (hS : Sd p w) :
    Calls Tryz.prog 139 #[.pointer (some ⟨p, 0, none⟩), .agg (dcell d), .agg (pcells fx fy ax ay h)] w
      (RB (.bool (decide (Kp d fx fy ax ay h))) w) :=
  keeps_walk p w hS (fun w s => dless_c k.pfx k.pfy k.dx k.dy (by decide) p w s) (fun w s => ddot_c k.mx k.my k.mx k.my k.m1 k.m2 (by decide) p w s)
    (fun w s => ddot_c k.pax k.pay k.pax k.pay k.a1 k.a2 (by decide) p w s) (fun w s => dmul_c k.ph k.aa (by decide) p w s) (fun w s => dadd_c k.mm k.ha (by decide) p w s)
    (fun w s => dsub_c k.x k.ds (by decide) p w s) (fun w s => ddot_c k.mx k.my k.pax k.pay k.b1 k.b2 (by decide) p w s)
    (fun w s => by have := dmul_c k.two k.bb (by decide) p w s; rw [← rt_two] at this; exact this)
    (fun w s => droot_c (k.xs.mono (by decide)) (k.b.mono (by decide)) (k.ph.mono (by decide)) k.h0 p w s)
end Go.Proofs.YtdknneofiefieaaGreatDoor

namespace Go.Proofs.YtdknneofiefieaaGreatDoor
open Go.RowKit Go.Lib Dec Rt Geo

/-- the cells of disc k of a slice that begins at block b -/
structure At3 (m : World) (b k : Nat) (t1 t2 t3 : ByteArray) : Prop where
  x : m.cell? ⟨b, k * 3, none⟩ = some (.string t1)
  y : m.cell? ⟨b, k * 3 + 1, none⟩ = some (.string t2)
  s : m.cell? ⟨b, k * 3 + 2, none⟩ = some (.string t3)
theorem At3.step {x y : World} {b k : Nat} {t1 t2 t3 : ByteArray} (h : At3 x b k t1 t2 t3) (hb : Below x.heap.size x y) : At3 y b k t1 t2 t3 := ⟨cell_bl hb h.x, cell_bl hb h.y, cell_bl hb h.s⟩

set_option maxRecDepth 100000 in
set_option maxHeartbeats 4000000 in
theorem named_far0 {len cp b i j : Nat} {side : Int} {x1 y1 s1 x2 y2 s2 dx dy fr : ByteArray} (hi : i < len) (hj : j < len) (_hlen : len ≤ 1000) (hij : i ≠ j) (p : Nat) (w : World) (hS : Sd p w) (hA : At3 w b i x1 y1 s1) (hB : At3 w b j x2 y2 s2)
    (Hless : ∀ w, Sd p w → Calls Tryz.prog 125 #[.pointer (some ⟨p, 0, none⟩), .agg #[.string x2, .string y2], .agg #[.string x1, .string y1]] w (RB (.agg #[.string dx, .string dy]) w))
    (Hdot : ∀ w, Sd p w → Calls Tryz.prog 126 #[.pointer (some ⟨p, 0, none⟩), .agg #[.string dx, .string dy], .agg #[.string dx, .string dy]] w (RB (.string fr) w))
    (hfr : (fr.toList == [48]) = true) :
    Calls Tryz.prog 137 #[.pointer (some ⟨p, 0, none⟩), .slice (some ⟨b, 0, none⟩) len cp, .agg #[.int .i64 i, .int .i64 j, .int .i64 side]] w
      (RB (.tuple #[.agg #[.string ⟨#[]⟩, .string ⟨#[]⟩, .string ⟨#[]⟩, .string ⟨#[]⟩, .string ⟨#[]⟩], .bool false]) w) := by
  obtain ⟨W, hW⟩ : ∃ W, (w.alloc (.cells #[.int .i64 i, .int .i64 j, .int .i64 side] 53)).alloc (.cells #[.string ⟨#[]⟩, .string ⟨#[]⟩, .string ⟨#[]⟩, .string ⟨#[]⟩, .string ⟨#[]⟩] 199) = W := ⟨_, rfl⟩
  have x0 : Bw p w _ W := hW ▸ Bw.box2 hS _ _
  have hA := hA.step x0.b
  have hB := hB.step x0.b
  have hib : (i : Int) < (len : Int) := by omega
  have hjb : (j : Int) < (len : Int) := by omega
  have hijz : ((i : Int) == (j : Int)) = false := by rw [beq_eq_false_iff_ne]; omega
  have c0 := x0.cell 1 rfl 0 rfl
  have c1 := x0.cell 1 rfl 1 rfl
  have a1 := hA.x
  have a2 := hA.y
  have a3 := hA.s
  have b1 := hB.x
  have b2 := hB.y
  have b3 := hB.s
  go_enter Tryz.func137, Tryz.ntmps137
  go_wp2_with fail
  clear hW
  rename_i KK hKK
  have HK := Lib.hid hKK
  clear hKK
  have hcont : ∀ (gA gB : Nat) (Y : World), w.heap.size + 1 < gA → w.heap.size + 1 < gB → Bw p w [(gA, .cells #[.string x1, .string y1, .string s1] 43), (gB, .cells #[.string x2, .string y2, .string s2] 43), (w.heap.size + 1, .cells #[.string ⟨#[]⟩, .string ⟨#[]⟩, .string ⟨#[]⟩, .string ⟨#[]⟩, .string ⟨#[]⟩] 199), (w.heap.size, .cells #[.int .i64 i, .int .i64 j, .int .i64 side] 53)] Y → KK { tmps := #[.pointer (some ⟨p, 0, none⟩), .slice (some ⟨b, 0, none⟩) len cp, .agg #[.int .i64 i, .int .i64 j, .int .i64 side], undef, undef, .pointer (some ⟨w.heap.size, 0, none⟩), .pointer (some ⟨w.heap.size + 1, 0, none⟩), .bool false, .pointer (some ⟨gA, 0, none⟩), .pointer (some ⟨gB, 0, none⟩), undef, undef, undef, undef, .slice (some ⟨b, 0, none⟩) len cp, .pointer (some ⟨w.heap.size, 0, none⟩), .int .i64 i, .pointer (some ⟨b, i * 3, none⟩), .agg #[.string x1, .string y1, .string s1], .slice (some ⟨b, 0, none⟩) len cp, .pointer (some ⟨w.heap.size, 1, none⟩), .int .i64 j, .pointer (some ⟨b, j * 3, none⟩), .agg #[.string x2, .string y2, .string s2], undef, undef, undef, undef, undef, undef, undef, undef, undef, undef, undef, undef, undef, undef, undef, undef, undef, undef, undef, undef, undef, undef, undef, undef, undef, undef, undef, undef, undef, undef, undef, undef, undef, undef, undef, undef, undef, undef, undef, undef, undef, undef, undef, undef, undef, undef, undef, undef, undef, undef, undef, undef, undef, undef, undef, undef, undef, undef, undef, undef, undef, undef, undef, undef, undef, undef, undef, undef, undef, undef, undef, undef, undef, undef, undef, undef, undef, undef, undef, undef, undef, undef, undef, undef, undef, undef, undef, undef, undef, undef, undef, undef, undef, undef, undef, undef, undef, undef, undef, undef, undef, undef, undef, undef, undef, undef, undef, undef, undef, undef, undef], defers := [] } Y := by
    intro gA gB Y hgA hgB hY
    clear c0 c1 a1 a2 a3 b1 b2 b3 x0 hA hB
    have c0 := hY.cell 0 rfl 0 rfl
    have c1 := hY.cell 0 rfl 1 rfl
    have c2 := hY.cell 1 rfl 0 rfl
    have c3 := hY.cell 1 rfl 1 rfl
    have c4 := hY.cell 3 rfl 0 rfl
    have c5 := hY.cell 3 rfl 1 rfl
    refine HK.out _ _ ?_
    go_wp2_with fail
    refine (Hless _ hY.s).mono ?_
    rintro e w1 ⟨rfl, b1⟩
    have y1 := hY.step b1
    have y2 := y1.new (.cells #[.string dx, .string dy] 41)
    clear c0 c1 c2 c3 c4 c5
    go_wp2_with fail
    refine (Hdot _ y2.s).mono ?_
    rintro e w2 ⟨rfl, b2⟩
    have y3 := y2.step b2
    clear y1 y2
    have r0 := y3.cell 3 rfl 0 rfl
    have r1 := y3.cell 3 rfl 1 rfl
    have r2 := y3.cell 3 rfl 2 rfl
    have r3 := y3.cell 3 rfl 3 rfl
    have r4 := y3.cell 3 rfl 4 rfl
    have q0 := y3.frozen 3 rfl 0
    have q1 := y3.frozen 3 rfl 1
    have q2 := y3.frozen 3 rfl 2
    have q3 := y3.frozen 3 rfl 3
    have q4 := y3.frozen 3 rfl 4
    clear Hless Hdot HK
    go_wp2_with fail
    try simp only [Exit.then]
    refine bodyPost_ret (v := .tuple #[.agg #[.string ⟨#[]⟩, .string ⟨#[]⟩, .string ⟨#[]⟩, .string ⟨#[]⟩, .string ⟨#[]⟩], .bool false]) ?_ rfl ⟨rfl, ((((y3.b.setCell (p := ⟨w.heap.size + 1, 0, none⟩) (by simp) _).setCell (p := ⟨w.heap.size + 1, 1, none⟩) (by simp) _).setCell (p := ⟨w.heap.size + 1, 2, none⟩) (by simp) _).setCell (p := ⟨w.heap.size + 1, 3, none⟩) (by simp) _).setCell (p := ⟨w.heap.size + 1, 4, none⟩) (by simp) _⟩
    simp [results, Tryz.f137, go_sem, r0, r1, r2, r3, r4]
  clear HK hfr Hless Hdot
  have n0 := World.new_ne W _ c0
  have n1 := World.new_ne W _ a1
  have hlt := x0.lt (w.heap.size + 1, _) (by exact List.mem_cons_self)
  simp only at n0 n1 hlt
  go_region_held3 (fun m => m.cell? ⟨w.heap.size, 0, none⟩ = some (.int .i64 i) ∧ m.cell? ⟨w.heap.size, 1, none⟩ = some (.int .i64 j) ∧ m.cell? ⟨b, i * 3, none⟩ = some (.string x1) ∧ m.cell? ⟨b, i * 3 + 1, none⟩ = some (.string y1) ∧ m.cell? ⟨b, i * 3 + 2, none⟩ = some (.string s1) ∧ m.cell? ⟨b, j * 3, none⟩ = some (.string x2) ∧ m.cell? ⟨b, j * 3 + 1, none⟩ = some (.string y2) ∧ m.cell? ⟨b, j * 3 + 2, none⟩ = some (.string s2)) (go_keep) (fail)
  all_goals
    show KK _ _
    have z1 := x0.new (.cells #[.string x1, .string y1, .string s1] 43)
    have z2 := z1.new (.cells #[.string x2, .string y2, .string s2] 43)
    have z3 := x0.new (.cells #[.string x2, .string y2, .string s2] 43)
    have z4 := z3.new (.cells #[.string x1, .string y1, .string s1] 43)
    rw [World.size_alloc] at z2 z4
    first
      | exact hcont _ _ _ hlt (by omega) (z2.drop (by intro q hq; simp only [List.mem_cons, List.not_mem_nil, or_false] at hq ⊢; rcases hq with rfl | rfl | rfl | rfl <;> simp)).drew
      | exact hcont _ _ _ (by omega) hlt (z4.drop (by intro q hq; simp only [List.mem_cons, List.not_mem_nil, or_false] at hq ⊢; rcases hq with rfl | rfl | rfl | rfl <;> simp)).drew
end Go.Proofs.YtdknneofiefieaaGreatDoor
