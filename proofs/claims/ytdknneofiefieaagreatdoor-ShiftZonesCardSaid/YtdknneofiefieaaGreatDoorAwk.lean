import Derived.Test.YtdknneofiefieaaGreatDoorDoe
import Derived.Test.YtdknneofiefieaaGreatDoorSCo
import Derived.Test.YtdknneofiefieaaGreatDoorTwo
import Derived.Test.YtdknneofiefieaaGreatDoorHa

namespace Go.Proofs.YtdknneofiefieaaGreatDoor
open Go.RowKit Go.Lib Rt Geo Sh

theorem cts_int {d : Dc} {p q : Int} (hd : Ds d) (hp : p.natAbs ≤ 10 ^ 6) (hq : q.natAbs ≤ 10 ^ 6) : CtS 50 d (p : Rat) (q : Rat) := by
  have fp : Fc 1 (10 ^ 6) (p : Rat) := Fc.int p hp
  have fq : Fc 1 (10 ^ 6) (q : Rat) := Fc.int q hq
  have dx : Fc 1 (2 * 10 ^ 6) (d.x - p) := (hd.fx.sub fp).mono (by decide)
  have dy : Fc 1 (2 * 10 ^ 6) (d.y - q) := (hd.fy.sub fq).mono (by decide)
  have xx : Fc 1 (4 * 10 ^ 12) ((d.x - p) * (d.x - p)) := dx.mul dx
  have yy : Fc 1 (4 * 10 ^ 12) ((d.y - q) * (d.y - q)) := dy.mul dy
  have ff : Fc 1 (8 * 10 ^ 12) ((d.x - p) * (d.x - p) + (d.y - q) * (d.y - q)) := (xx.add yy).mono (by decide)
  have df : Fc 4 (4 * 10 ^ 13) ((d.x - p) * (d.x - p) + (d.y - q) * (d.y - q) - d.s) := ((ff.lift 4 (by decide)).sub hd.fs).mono (by decide)
  exact ⟨by decide, hd.sx, hd.sy, hd.ss, f1 fp (by decide), f1 fq (by decide), f1 dx (by decide), f1 dy (by decide), f1 xx (by decide), f1 yy (by decide), f1 ff (by decide), (f4 df (by decide)).mono (by decide)⟩
theorem rt_m1 : (⟨#[45, 49]⟩ : ByteArray) = rt (-1) := by decide +kernel
theorem rt_m3 : rt (-3) = (⟨#[45, 51]⟩ : ByteArray) := by decide +kernel
theorem rt_4 : rt 4 = (⟨#[52]⟩ : ByteArray) := by decide +kernel

/-- Feasible: its first result alone -/
theorem feas_ex {ts : List (Tg × Ci)} {b o b' o' cp cp' n : Nat} {play : Int} {r : Bool} (h : Pok ts) (hl : ts.length = n) (hn : n ≤ 16) (p1 : -1 ≤ play) (p2 : play ≤ 100000) (hr : feas (zs ts play) = r) (w : World) (g : Gd w) (hm : PM w b o b' o' ts) :
    Calls Tryz.prog 24 #[.agg (tkv b o n cp b' o' cp' play)] w fun e w' => (∃ i j s : Int, e = .returned (.tuple #[.bool r, .agg #[.int .i64 i, .int .i64 j, .int .i64 s], .int .i64 0])) ∧ Below w.heap.size w w' := by
  subst hl
  refine (feasible_c (cp := cp) (cp' := cp') h hn p1 p2 w g hm).mono fun e w' => ?_
  rintro ⟨rfl, hb⟩
  refine ⟨?_, hb⟩
  unfold feas at hr
  cases hf : fw (zc (zs ts play)) (zs ts play).length with
  | none => rw [hf] at hr; subst hr; exact ⟨0, 0, 0, rfl⟩
  | some x => rw [hf] at hr; subst hr; exact ⟨x.1, x.2.1, x.2.2, rfl⟩

theorem two_len (a b n : Int) : (two a b n).length = 2 := rfl
theorem two_zs : zs (two 3 53 20) (-1) = [around (-3) 0 4, around (-3) 0 4] := zs_two 3 53 20
theorem does_a {b b' : Nat} (w : World) (g : Gd w) (hm : PM w b 0 b' 0 (two 3 53 20)) :
    Calls Tryz.prog 21 #[.agg (tkv b 0 2 2 b' 0 2 (-1)), .agg #[.string ⟨#[45, 49]⟩, .string ⟨#[48]⟩]] w (RB (.tuple #[.bool true, .int .i64 0]) w) := by
  rw [rt_m1, rt_zero', ← two_does, ← two_len 3 53 20]
  exact sdoes_c (N := 50) (px := -1) (py := 0) pok_a (by decide) (by decide) (by decide) (fun d hd => cts_int (p := -1) (q := 0) (pok_a.ds (by decide) d hd) (by decide) (by decide)) w g hm
theorem does_b {b b' : Nat} (w : World) (g : Gd w) (hm : PM w b 0 b' 0 (two (-3) 53 22)) :
    Calls Tryz.prog 21 #[.agg (tkv b 0 2 2 b' 0 2 (-1)), .agg #[.string ⟨#[48]⟩, .string ⟨#[48]⟩]] w (RB (.tuple #[.bool true, .int .i64 0]) w) := by
  rw [rt_zero', ← two_does', ← two_len (-3) 53 22]
  exact sdoes_c (N := 50) (px := 0) (py := 0) pok_c (by decide) (by decide) (by decide) (fun d hd => cts_int (p := 0) (q := 0) (pok_c.ds (by decide) d hd) (by decide) (by decide)) w g hm
theorem need_a {b b' : Nat} (w : World) (g : Gd w) (hm : PM w b 0 b' 0 (two 3 53 20)) :
    Calls Tryz.prog 29 #[.agg (tkv b 0 2 2 b' 0 2 (-1))] w (RB (.tuple #[.int .i64 2, .int .i64 0]) w) := by
  refine (needed_c (ts := two 3 53 20) (cp := 2) (cp' := 2) (play := -1) pok_a (by decide) (by decide) (by decide) w g hm).mono fun e w' => ?_
  rintro ⟨h, hb⟩
  refine ⟨?_, hb⟩
  rcases h with ⟨h, _⟩ | ⟨_, n, rfl, h0, h1, h2, h3⟩
  · rw [two_far] at h; cases h
  · rw [two_need h0 h1 h2 h3]
theorem contra_b {b b' : Nat} (w : World) (g : Gd w) (hm : PM w b 0 b' 0 (two (-3) 53 20)) :
    Calls Tryz.prog 26 #[.agg (tkv b 0 2 2 b' 0 2 (-1))] w fun e w' => (∃ q, e = .returned (.tuple #[.slice (some ⟨q, 0, none⟩) 2 2, .int .i64 0]) ∧ w'.cell? ⟨q, 0, none⟩ = some (.int .i64 0) ∧ w'.cell? ⟨q, 1, none⟩ = some (.int .i64 1)) ∧ Below w.heap.size w w' := by
  refine (scontra_c (ts := two (-3) 53 20) (cp := 2) (cp' := 2) (play := -1) pok_b (by decide) (by decide) (by decide) w g hm).mono fun e w' => ?_
  rintro ⟨⟨v, o, rfl, hc, hi⟩, hb⟩
  refine ⟨?_, hb⟩
  obtain rfl := two_ctr hc
  rcases hi with ⟨h, _⟩ | ⟨_, q, rfl, _, h⟩
  · cases h
  · exact ⟨q, rfl, h 0 0 rfl, h 1 1 rfl⟩
theorem zones_a {b b' : Nat} (w : World) (g : Gd w) (hm : PM w b 0 b' 0 (two 3 53 20)) :
    Calls Tryz.prog 14 #[.agg (tkv b 0 2 2 b' 0 2 (-1))] w fun e w' => (∃ q cap, e = .returned (.tuple #[.slice (some ⟨q, 0, none⟩) 2 cap, .int .i64 0]) ∧ w'.cell? ⟨q, 0, none⟩ = some (.string ⟨#[45, 51]⟩) ∧ w'.cell? ⟨q, 1, none⟩ = some (.string ⟨#[48]⟩) ∧ w'.cell? ⟨q, 2, none⟩ = some (.string ⟨#[52]⟩)) ∧ Below w.heap.size w w' := by
  refine (zones_c (ts := two 3 53 20) (cp := 2) (cp' := 2) (play := -1) pok_a (by decide) (by decide) (by decide) w g hm).mono fun e w' => ?_
  rintro ⟨⟨v, n, rfl, rfl, ho⟩, hb⟩
  refine ⟨?_, hb⟩
  rw [two_zs] at ho
  obtain ⟨q, cap, rfl, _, _⟩ := ho.form (by decide)
  have hD := (owns_dl ho rfl).a 0 (by decide)
  have h1 := hD.x
  have h2 := hD.y
  have h3 := hD.s
  have e1 : (zc [around (-3) 0 4, around (-3) 0 4] 0).x = -3 := by decide +kernel
  have e2 : (zc [around (-3) 0 4, around (-3) 0 4] 0).y = 0 := by decide +kernel
  have e3 : (zc [around (-3) 0 4, around (-3) 0 4] 0).s = 4 := by decide +kernel
  rw [e1, rt_m3] at h1
  rw [e2, ← rt_zero'] at h2
  rw [e3, rt_4] at h3
  exact ⟨q, cap, rfl, h1, h2, h3⟩

set_option maxRecDepth 100000 in
set_option maxHeartbeats 4000000 in
theorem awake_c (w : World) (g : Gd w) : Calls Tryz.prog 13 #[] w (RB (.bool true) w) := by
  go_enter Tryz.func13, Tryz.ntmps13
  go_wp2_with fail
  refine (two_c 3 53 20 w).mono ?_
  rintro e w1 ⟨⟨g1, g1', rfl, m1⟩, B1⟩
  have C1 := feas_ex (cp := 2) (cp' := 2) (n := 2) pok_a rfl (by decide) (by decide) (by decide) two_fs w1 (g.below B1) m1
  unfold tkv at *
  go_wp2_with fail
  refine C1.mono ?_
  rintro e w2 ⟨⟨i1, j1, s1, rfl⟩, b2⟩
  have B2 := Bl.trans B1 b2
  have bX : Below w2.heap.size w2 (w2.alloc (.cells #[.int .i64 i1, .int .i64 j1, .int .i64 s1] 53)) := (Below.refl _ w2).alloc (Nat.le_refl _) _
  have BX := Bl.trans B2 bX
  clear C1 m1
  go_wp2_with fail
  refine (two_c 3 53 20 _).mono ?_
  rintro e w3 ⟨⟨g3, g3', rfl, m3⟩, b3⟩
  have B3 := Bl.trans BX b3
  have C4 := does_a w3 (g.below B3) m3
  unfold tkv at *
  go_wp2_with fail
  refine C4.mono ?_
  rintro e w4 ⟨rfl, b4⟩
  have B4 := Bl.trans B3 b4
  clear C4
  go_wp2_with fail
  refine (two_c (3) 53 20 w4).mono ?_
  rintro e w5 ⟨⟨g5, g5', rfl, m5⟩, b5⟩
  have B5 := Bl.trans B4 b5
  have C6 := need_a w5 (g.below B5) m5
  unfold tkv at *
  go_wp2_with fail
  refine C6.mono ?_
  rintro e w6 ⟨rfl, b6⟩
  have B6 := Bl.trans B5 b6
  clear C6
  go_wp2_with fail
  refine (two_c (-3) 53 20 w6).mono ?_
  rintro e w7 ⟨⟨g7, g7', rfl, m7⟩, b7⟩
  have B7 := Bl.trans B6 b7
  have C8 := feas_ex (cp := 2) (cp' := 2) (n := 2) pok_b rfl (by decide) (by decide) (by decide) two_no w7 (g.below B7) m7
  unfold tkv at *
  go_wp2_with fail
  refine C8.mono ?_
  rintro e w8 ⟨⟨i2, j2, s2, rfl⟩, b8⟩
  have B8 := Bl.trans B7 b8
  clear C8
  go_wp2_with fail
  refine (two_c (-3) 53 20 w8).mono ?_
  rintro e w9 ⟨⟨g9, g9', rfl, m9⟩, b9⟩
  have B9 := Bl.trans B8 b9
  have C10 := contra_b w9 (g.below B9) m9
  unfold tkv at *
  go_wp2_with fail
  refine C10.mono ?_
  rintro e w10 ⟨⟨q, rfl, hq0, hq1⟩, b10⟩
  have B10 := Bl.trans B9 b10
  clear C10
  go_wp2_with fail
  refine (two_c (-3) 53 22 w10).mono ?_
  rintro e w11 ⟨⟨g11, g11', rfl, m11⟩, b11⟩
  have B11 := Bl.trans B10 b11
  have C12 := does_b w11 (g.below B11) m11
  unfold tkv at *
  go_wp2_with fail
  refine C12.mono ?_
  rintro e w12 ⟨rfl, b12⟩
  have B12 := Bl.trans B11 b12
  clear C12
  go_wp2_with fail
  refine (two_c (3) 53 20 w12).mono ?_
  rintro e w13 ⟨⟨g13, g13', rfl, m13⟩, b13⟩
  have B13 := Bl.trans B12 b13
  have C14 := zones_a w13 (g.below B13) m13
  unfold tkv at *
  go_wp2_with fail
  refine C14.mono ?_
  rintro e w14 ⟨⟨z, cap, rfl, z0, z1, z2⟩, b14⟩
  have B14 := Bl.trans B13 b14
  clear C14
  have q0 := cell_bl b14 (cell_bl b13 (cell_bl b12 (cell_bl b11 hq0)))
  have q1 := cell_bl b14 (cell_bl b13 (cell_bl b12 (cell_bl b11 hq1)))
  have bn : Below w14.heap.size w14 (w14.alloc (.cells #[.int .i64 0, .int .i64 1] 3)) := (Below.refl _ w14).alloc (Nat.le_refl _) _
  have qn := heap_alloc_new w14 (.cells #[.int .i64 0, .int .i64 1] 3)
  have EQ := Tryz.slices_Equal_int q 0 2 2 w14.heap.size 0 2 2 [0, 1] [0, 1] (w14.alloc (.cells #[.int .i64 0, .int .i64 1] 3)) (by decide) (by decide) (by decide) (by decide)
    (fun j hj => by
      match j, hj with
      | 0, _ => exact cell_bl bn q0
      | 1, _ => exact cell_bl bn q1)
    (fun j hj => by
      match j, hj with
      | 0, _ => exact cell_of_row _ _ 0 _ _ _ qn
      | 1, _ => exact cell_of_row _ _ 1 _ _ _ qn)
  have hb : (([0, 1] : List Int).take 2 == ([0, 1] : List Int).take 2) = true := by decide
  rw [hb] at EQ
  have BN := Bl.trans B14 bn
  have zz0 := cell_bl bn z0
  have zz1 := cell_bl bn z1
  have zz2 := cell_bl bn z2
  clear hq0 hq1 q0 q1 qn hb z0 z1 z2
  go_wp2_with fail
  refine EQ.mono ?_
  rintro e w15 ⟨rfl, k, rfl⟩
  have B15 := below_drewN BN k
  go_wp2_with fail
  go_ret
  exact ⟨rfl, B15⟩
end Go.Proofs.YtdknneofiefieaaGreatDoor
