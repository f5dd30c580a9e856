import Derived.Test.YtdknneofiefieaaGreatDoorGa
import Derived.Test.YtdknneofiefieaaGreatDoorGb

namespace Rt
open Geo

/-- a disc with whole coordinates and quarters for its square -/
def Ds (d : Dc) : Prop := (∃ x : Int, d.x = (x : Rat) ∧ x.natAbs ≤ 10 ^ 6) ∧ (∃ y : Int, d.y = (y : Rat) ∧ y.natAbs ≤ 10 ^ 6) ∧ Fc 4 (10 ^ 12) d.s ∧ 0 ≤ d.s

theorem Ds.fx {d : Dc} (h : Ds d) : Fc 1 (10 ^ 6) d.x := by obtain ⟨⟨x, e, hx⟩, _⟩ := h; rw [e]; exact Fc.int x hx
theorem Ds.fy {d : Dc} (h : Ds d) : Fc 1 (10 ^ 6) d.y := by obtain ⟨_, ⟨x, e, hx⟩, _⟩ := h; rw [e]; exact Fc.int x hx
theorem Ds.fs {d : Dc} (h : Ds d) : Fc 4 (10 ^ 12) d.s := h.2.2.1
theorem f_dX {a b : Dc} (ha : Ds a) (hb : Ds b) : Fc 1 (2 * 10 ^ 6) (dX a b) := (hb.fx.sub ha.fx).mono (by decide)
theorem f_dY {a b : Dc} (ha : Ds a) (hb : Ds b) : Fc 1 (2 * 10 ^ 6) (dY a b) := (hb.fy.sub ha.fy).mono (by decide)
theorem f_xx {a b : Dc} (ha : Ds a) (hb : Ds b) : Fc 1 (4 * 10 ^ 12) (dX a b * dX a b) := (f_dX ha hb).mul (f_dX ha hb)
theorem f_yy {a b : Dc} (ha : Ds a) (hb : Ds b) : Fc 1 (4 * 10 ^ 12) (dY a b * dY a b) := (f_dY ha hb).mul (f_dY ha hb)
theorem f_far {a b : Dc} (ha : Ds a) (hb : Ds b) : Fc 1 (8 * 10 ^ 12) (Fr a b) := ((f_xx ha hb).add (f_yy ha hb)).mono (by decide)

/-- the squared distance is a whole number -/
theorem far_nat {a b : Dc} (ha : Ds a) (hb : Ds b) : ∃ F : Nat, Fr a b = (F : Rat) ∧ F ≤ 8 * 10 ^ 12 := by
  obtain ⟨_, n, e, hn⟩ := f_far ha hb
  have h0 := Fr_nn a b
  have e : Fr a b = (n : Rat) := by rw [← e]; grind
  have h1 : 0 ≤ n := by
    rw [e] at h0
    exact Rat.intCast_nonneg.1 h0
  refine ⟨n.natAbs, ?_, hn⟩
  rw [e]
  have : ((n.natAbs : Int) : Rat) = (n.natAbs : Rat) := Rat.intCast_natCast _
  rw [← this]; congr 1; omega

theorem f_s1 {a b : Dc} (ha : Ds a) (hb : Ds b) : Fc 4 (4 * 10 ^ 13) (Fr a b + a.s) := (((f_far ha hb).lift 4 (by decide)).add ha.fs).mono (by decide)
theorem f_s2 {a b : Dc} (ha : Ds a) (hb : Ds b) : Fc 4 (5 * 10 ^ 13) (Fr a b + a.s - b.s) := ((f_s1 ha hb).sub hb.fs).mono (by decide)
theorem f_2 : Fc 1 2 (2 : Rat) := Fc.int 2 (by decide)
theorem f_2far {a b : Dc} (ha : Ds a) (hb : Ds b) : Fc 1 (16 * 10 ^ 12) (2 * Fr a b) := (f_2.mul (f_far ha hb)).mono (by decide)

/-- the denominator of all places that a pair names -/
def Hd (F : Nat) : Nat := 8 * F
theorem f_t {a b : Dc} {F : Nat} (ha : Ds a) (hb : Ds b) (e : Fr a b = (F : Rat)) (h0 : 0 < F) : Fc (Hd F) (5 * 10 ^ 13) (tt a b) := by
  have h := (f_s2 ha hb).over (F := 2 * F) (by omega)
  have e2 : ((2 * F : Nat) : Rat) = 2 * Fr a b := by rw [e, Rat.natCast_mul]; rfl
  rw [e2] at h
  have e3 : 4 * (2 * F) = Hd F := by unfold Hd; omega
  rw [e3] at h
  exact h
theorem f_tx {a b : Dc} {F : Nat} (ha : Ds a) (hb : Ds b) (e : Fr a b = (F : Rat)) (h0 : 0 < F) (_hF : F ≤ 8 * 10 ^ 12) : Fc (Hd F) (10 ^ 20) (tt a b * dX a b) := by
  have := (f_t ha hb e h0).mul (f_dX ha hb); rw [Nat.mul_one] at this; exact this.mono (by decide)
theorem f_ty {a b : Dc} {F : Nat} (ha : Ds a) (hb : Ds b) (e : Fr a b = (F : Rat)) (h0 : 0 < F) (_hF : F ≤ 8 * 10 ^ 12) : Fc (Hd F) (10 ^ 20) (tt a b * dY a b) := by
  have := (f_t ha hb e h0).mul (f_dY ha hb); rw [Nat.mul_one] at this; exact this.mono (by decide)
theorem up_int {F : Nat} (h0 : 0 < F) (hF : F ≤ 8 * 10 ^ 12) {q : Rat} {M : Nat} (h : Fc 1 M q) : Fc (Hd F) (M * (64 * 10 ^ 12)) q := by
  have := h.lift (Hd F) (by unfold Hd; omega); rw [Nat.one_mul] at this
  exact this.mono (Nat.mul_le_mul_left _ (by unfold Hd; omega))
theorem f_fX {a b : Dc} {F : Nat} (ha : Ds a) (hb : Ds b) (e : Fr a b = (F : Rat)) (h0 : 0 < F) (hF : F ≤ 8 * 10 ^ 12) : Fc (Hd F) (2 * 10 ^ 20) (fX a b) := ((up_int h0 hF ha.fx).add (f_tx ha hb e h0 hF)).mono (by decide)
theorem f_fY {a b : Dc} {F : Nat} (ha : Ds a) (hb : Ds b) (e : Fr a b = (F : Rat)) (h0 : 0 < F) (hF : F ≤ 8 * 10 ^ 12) : Fc (Hd F) (2 * 10 ^ 20) (fY a b) := ((up_int h0 hF ha.fy).add (f_ty ha hb e h0 hF)).mono (by decide)
theorem up_one {F : Nat} (h0 : 0 < F) (hF : F ≤ 8 * 10 ^ 12) {q : Rat} {M : Nat} (h : Fc (Hd F) M q) : Fc (Hd F * Hd F) (M * (64 * 10 ^ 12)) q :=
  (h.lift (Hd F) (by unfold Hd; omega)).mono (Nat.mul_le_mul_left _ (by unfold Hd; omega))
theorem up_four {F : Nat} (h0 : 0 < F) (hF : F ≤ 8 * 10 ^ 12) {q : Rat} {M : Nat} (h : Fc 4 M q) : Fc (Hd F * Hd F) (M * 10 ^ 28) q := by
  have := h.lift (16 * F * F) (by have := Nat.mul_pos (Nat.mul_pos (show 0 < 16 by omega) h0) h0; exact this)
  have e3 : 4 * (16 * F * F) = Hd F * Hd F := by unfold Hd; grind
  rw [e3] at this
  refine this.mono (Nat.mul_le_mul_left _ ?_)
  calc 16 * F * F ≤ 16 * (8 * 10 ^ 12) * (8 * 10 ^ 12) := Nat.mul_le_mul (Nat.mul_le_mul_left _ hF) hF
    _ ≤ 10 ^ 28 := by decide
theorem f_sF {a b : Dc} {F : Nat} (ha : Ds a) (_hb : Ds b) (e : Fr a b = (F : Rat)) (h0 : 0 < F) (hF : F ≤ 8 * 10 ^ 12) : Fc (Hd F * Hd F) (2 * 10 ^ 12 * (64 * 10 ^ 12)) (a.s / Fr a b) := by
  have h := ha.fs.over h0
  rw [← e] at h
  have h2 := h.lift 2 (by decide)
  have e3 : 4 * F * 2 = Hd F := by unfold Hd; omega
  rw [e3] at h2
  exact up_one h0 hF (h2.mono (by decide))
theorem f_tt {a b : Dc} {F : Nat} (ha : Ds a) (hb : Ds b) (e : Fr a b = (F : Rat)) (h0 : 0 < F) (_hF : F ≤ 8 * 10 ^ 12) : Fc (Hd F * Hd F) (25 * 10 ^ 26) (tt a b * tt a b) := (f_t ha hb e h0).mul (f_t ha hb e h0)
theorem f_hh {a b : Dc} {F : Nat} (ha : Ds a) (hb : Ds b) (e : Fr a b = (F : Rat)) (h0 : 0 < F) (hF : F ≤ 8 * 10 ^ 12) : Fc (Hd F * Hd F) (3 * 10 ^ 27) (hh a b) := ((f_sF ha hb e h0 hF).sub (f_tt ha hb e h0 hF)).mono (by decide)
theorem f_m {F : Nat} (h0 : 0 < F) (hF : F ≤ 8 * 10 ^ 12) {q c : Rat} (hq : Fc (Hd F) (2 * 10 ^ 20) q) (hc : Fc 1 (10 ^ 6) c) : Fc (Hd F) (3 * 10 ^ 20) (q - c) := (hq.sub (up_int h0 hF hc)).mono (by decide)
theorem f_mm {F : Nat}  {q c : Rat} (hq : Fc (Hd F) (3 * 10 ^ 20) q) (hc : Fc (Hd F) (3 * 10 ^ 20) c) : Fc (Hd F * Hd F) (18 * 10 ^ 40) (q * q + c * c) := ((hq.mul hq).add (hc.mul hc)).mono (by decide)
theorem f_ha {F : Nat}  {h q c : Rat} (hh : Fc (Hd F * Hd F) (3 * 10 ^ 27) h) (hq : Fc 1 (2 * 10 ^ 6) q) (hc : Fc 1 (2 * 10 ^ 6) c) : Fc (Hd F * Hd F) (3 * 10 ^ 40) (h * (q * q + c * c)) := by
  have h1 : Fc 1 (8 * 10 ^ 12) (q * q + c * c) := ((hq.mul hq).add (hc.mul hc)).mono (by decide)
  have := hh.mul h1; rw [Nat.mul_one] at this; exact this.mono (by decide)
theorem f_x {F : Nat} (h0 : 0 < F) (hF : F ≤ 8 * 10 ^ 12) {x y s : Rat} (hx : Fc (Hd F * Hd F) (18 * 10 ^ 40) x) (hy : Fc (Hd F * Hd F) (3 * 10 ^ 40) y) (hs : Fc 4 (10 ^ 12) s) : Fc (Hd F * Hd F) (4 * 10 ^ 41) (x + y - s) :=
  ((hx.add hy).sub (up_four h0 hF hs)).mono (by decide)
theorem f_b {F : Nat}  {x y p q : Rat} (hx : Fc (Hd F) (3 * 10 ^ 20) x) (hy : Fc (Hd F) (3 * 10 ^ 20) y) (hp : Fc 1 (2 * 10 ^ 6) p) (hq : Fc 1 (2 * 10 ^ 6) q) : Fc (Hd F) (12 * 10 ^ 26) (x * p + y * q) := by
  have h1 := hx.mul hp
  have h2 := hy.mul hq
  rw [Nat.mul_one] at h1 h2
  exact (h1.add h2).mono (by decide)
theorem Hd_lt {F : Nat} (hF : F ≤ 8 * 10 ^ 12) : Hd F < 10 ^ 50 := by unfold Hd; omega
theorem HH_lt {F : Nat} (hF : F ≤ 8 * 10 ^ 12) : Hd F * Hd F < 10 ^ 50 := by
  have : Hd F ≤ 64 * 10 ^ 12 := by unfold Hd; omega
  calc Hd F * Hd F ≤ (64 * 10 ^ 12) * (64 * 10 ^ 12) := Nat.mul_le_mul this this
    _ < 10 ^ 50 := by decide
theorem sm1 {F : Nat} (hF : F ≤ 8 * 10 ^ 12) {q : Rat} {M : Nat} (h : Fc (Hd F) M q) (hM : M < 10 ^ 50) : Sm 50 q := h.sm (Hd_lt hF) hM
theorem sm2 {F : Nat} (hF : F ≤ 8 * 10 ^ 12) {q : Rat} {M : Nat} (h : Fc (Hd F * Hd F) M q) (hM : M < 10 ^ 50) : Sm 50 q := h.sm (HH_lt hF) hM
end Rt

namespace Rt
open Geo

theorem sg_num (q : Rat) : sg q = q.num.sign := by
  obtain ⟨h1, h2, h3⟩ := num_sign q
  rcases Geo.tri q with h | h | h
  · rw [sg_neg h, Int.sign_eq_neg_one_of_neg (h1.1 h)]
  · rw [h, sg_zero]; rfl
  · rw [sg_pos h, Int.sign_eq_one_of_pos (h2.1 h)]
theorem sg_int (n : Int) : sg (n : Rat) = n.sign := sg_num _

/-- the root of integers, as the program tells its sign -/
def isg (x y r : Int) : Int :=
  if 0 ≤ x.sign * (y.sign * r.sign) then (if x.sign = 0 then y.sign * r.sign else x.sign) else x.sign * (x * x - y * y * r).sign

theorem sg_mul_pos {a k : Rat} (hk : 0 < k) : sg (a * k) = sg a := by
  rcases Geo.tri a with h | h | h
  · rw [sg_neg h, sg_neg (by have := mulpos (a := -a) (b := k) (by grind) hk; grind)]
  · subst h; rw [Rat.zero_mul]
  · rw [sg_pos h, sg_pos (mulpos h hk)]

theorem den_ne (q : Rat) : (q.den : Rat) ≠ 0 := by
  intro h; have := Rat.natCast_eq_zero_iff.1 h; have := q.den_nz; omega
theorem den_pos' (q : Rat) : 0 < (q.den : Rat) := Rat.natCast_pos.2 q.den_pos
theorem num_eq (q : Rat) : (q.num : Rat) = q * (q.den : Rat) := by
  have h := Rat.num_divInt_den q
  rw [Rat.divInt_eq_div] at h
  have h2 : ((q.den : Int) : Rat) = (q.den : Rat) := Rat.intCast_natCast q.den
  rw [h2] at h
  have hD := den_ne q
  generalize (q.den : Rat) = d at *
  rw [← h]; grind

/-- x = an bq cq, y = bn aq, r = cn cq -/
theorem isg_eq (a b c : Rat) : isg (a.num * b.den * c.den) (b.num * a.den) (c.num * c.den) = rsg a b c := by
  have ia := num_eq a; have ib := num_eq b; have ic := num_eq c
  have da := den_pos' a; have db := den_pos' b; have dc := den_pos' c
  have na : ((a.den : Int) : Rat) = (a.den : Rat) := Rat.intCast_natCast _
  have nb : ((b.den : Int) : Rat) = (b.den : Rat) := Rat.intCast_natCast _
  have nc : ((c.den : Int) : Rat) = (c.den : Rat) := Rat.intCast_natCast _
  have hx : (a.num * b.den * c.den : Int).sign = sg a := by
    rw [← sg_int, Rat.intCast_mul, Rat.intCast_mul, ia, nb, nc, show a * (a.den : Rat) * (b.den : Rat) * (c.den : Rat) = a * ((a.den : Rat) * (b.den : Rat) * (c.den : Rat)) by grind]
    exact sg_mul_pos (mulpos (mulpos da db) dc)
  have hy : (b.num * a.den : Int).sign = sg b := by
    rw [← sg_int, Rat.intCast_mul, ib, na, show b * (b.den : Rat) * (a.den : Rat) = b * ((b.den : Rat) * (a.den : Rat)) by grind]
    exact sg_mul_pos (mulpos db da)
  have hr : (c.num * c.den : Int).sign = sg c := by
    rw [← sg_int, Rat.intCast_mul, ic, nc, show c * (c.den : Rat) * (c.den : Rat) = c * ((c.den : Rat) * (c.den : Rat)) by grind]
    exact sg_mul_pos (mulpos dc dc)
  have hz : (a.num * b.den * c.den * (a.num * b.den * c.den) - b.num * a.den * (b.num * a.den) * (c.num * c.den) : Int).sign = sg (a * a - b * b * c) := by
    rw [← sg_int, Rat.intCast_sub]
    simp only [Rat.intCast_mul]
    rw [ia, ib, ic, na, nb, nc]
    rw [show a * (a.den : Rat) * (b.den : Rat) * (c.den : Rat) * (a * (a.den : Rat) * (b.den : Rat) * (c.den : Rat)) - b * (b.den : Rat) * (a.den : Rat) * (b * (b.den : Rat) * (a.den : Rat)) * (c * (c.den : Rat) * (c.den : Rat))
      = (a * a - b * b * c) * (((a.den : Rat) * (b.den : Rat) * (c.den : Rat)) * ((a.den : Rat) * (b.den : Rat) * (c.den : Rat))) by grind]
    exact sg_mul_pos (mulpos (mulpos (mulpos da db) dc) (mulpos (mulpos da db) dc))
  unfold isg rsg
  rw [hx, hy, hr, hz]
end Rt

namespace Rt
open Geo

theorem f1 {q : Rat} {M : Nat} (h : Fc 1 M q) (hM : M < 10 ^ 50) : Sm 50 q := h.sm (by decide) hM
theorem f4 {q : Rat} {M : Nat} (h : Fc 4 M q) (hM : M < 10 ^ 50) : Sm 50 q := h.sm (by decide) hM
theorem lt50 {M : Nat} (K : Nat) (h : M ≤ K) (hK : K < 10 ^ 50) : M < 10 ^ 50 := Nat.lt_of_le_of_lt h hK

/-- the sizes of what named computes of a pair -/
structure NmS (a b : Dc) : Prop where
  ax : Sm 50 a.x
  ay : Sm 50 a.y
  bx : Sm 50 b.x
  by' : Sm 50 b.y
  as : Sm 50 a.s
  bs : Sm 50 b.s
  dx : Sm 50 (dX a b)
  dy : Sm 50 (dY a b)
  xx : Sm 50 (dX a b * dX a b)
  yy : Sm 50 (dY a b * dY a b)
  far : Sm 50 (Fr a b)
theorem Ds.sx {d : Dc} (h : Ds d) : Sm 50 d.x := f1 h.fx (by decide)
theorem Ds.sy {d : Dc} (h : Ds d) : Sm 50 d.y := f1 h.fy (by decide)
theorem Ds.ss {d : Dc} (h : Ds d) : Sm 50 d.s := f4 h.fs (by decide)
theorem nmS {a b : Dc} (ha : Ds a) (hb : Ds b) : NmS a b :=
  ⟨ha.sx, ha.sy, hb.sx, hb.sy, ha.ss, hb.ss, f1 (f_dX ha hb) (by decide), f1 (f_dY ha hb) (by decide), f1 (f_xx ha hb) (by decide), f1 (f_yy ha hb) (by decide), f1 (f_far ha hb) (by decide)⟩

/-- and with different centers -/
structure NmF (a b : Dc) : Prop where
  s1 : Sm 50 (Fr a b + a.s)
  s2 : Sm 50 (Fr a b + a.s - b.s)
  two : Sm 50 2
  zero : Sm 50 0
  f2 : Sm 50 (2 * Fr a b)
  n2 : 2 * Fr a b ≠ 0
  t : Sm 50 (tt a b)
  tx : Sm 50 (tt a b * dX a b)
  ty : Sm 50 (tt a b * dY a b)
  fx : Sm 50 (fX a b)
  fy : Sm 50 (fY a b)
  sF : Sm 50 (a.s / Fr a b)
  tq : Sm 50 (tt a b * tt a b)
  h : Sm 50 (hh a b)
theorem far_ex {a b : Dc} (ha : Ds a) (hb : Ds b) (h0 : Fr a b ≠ 0) : ∃ F : Nat, Fr a b = (F : Rat) ∧ 0 < F ∧ F ≤ 8 * 10 ^ 12 := by
  obtain ⟨F, e, hF⟩ := far_nat ha hb
  refine ⟨F, e, ?_, hF⟩
  rcases Nat.eq_zero_or_pos F with h | h
  · subst h; exact (h0 e).elim
  · exact h
theorem nmF {a b : Dc} (ha : Ds a) (hb : Ds b) (h0 : Fr a b ≠ 0) : NmF a b := by
  obtain ⟨F, e, hp, hF⟩ := far_ex ha hb h0
  exact ⟨f4 (f_s1 ha hb) (by decide), f4 (f_s2 ha hb) (by decide), f1 f_2 (by decide), f1 (Fc.int 0 (M := 0) (by decide)) (by decide), f1 (f_2far ha hb) (by decide), by grind,
    sm1 hF (f_t ha hb e hp) (by decide), sm1 hF (f_tx ha hb e hp hF) (by decide), sm1 hF (f_ty ha hb e hp hF) (by decide), sm1 hF (f_fX ha hb e hp hF) (by decide), sm1 hF (f_fY ha hb e hp hF) (by decide),
    sm2 hF (f_sF ha hb e hp hF) (by decide), sm2 hF (f_tt ha hb e hp hF) (by decide), sm2 hF (f_hh ha hb e hp hF) (by decide)⟩

/-- the sizes of what keeps computes -/
structure KpS (d : Dc) (fx fy ax ay h : Rat) : Prop where
  dx : Sm 50 d.x
  dy : Sm 50 d.y
  ds : Sm 50 d.s
  pfx : Sm 50 fx
  pfy : Sm 50 fy
  pax : Sm 50 ax
  pay : Sm 50 ay
  ph : Sm 50 h
  mx : Sm 50 (fx - d.x)
  my : Sm 50 (fy - d.y)
  m1 : Sm 50 ((fx - d.x) * (fx - d.x))
  m2 : Sm 50 ((fy - d.y) * (fy - d.y))
  mm : Sm 50 ((fx - d.x) * (fx - d.x) + (fy - d.y) * (fy - d.y))
  a1 : Sm 50 (ax * ax)
  a2 : Sm 50 (ay * ay)
  aa : Sm 50 (ax * ax + ay * ay)
  ha : Sm 50 (h * (ax * ax + ay * ay))
  x : Sm 50 ((fx - d.x) * (fx - d.x) + (fy - d.y) * (fy - d.y) + h * (ax * ax + ay * ay))
  xs : Sm 50 ((fx - d.x) * (fx - d.x) + (fy - d.y) * (fy - d.y) + h * (ax * ax + ay * ay) - d.s)
  b1 : Sm 50 ((fx - d.x) * ax)
  b2 : Sm 50 ((fy - d.y) * ay)
  bb : Sm 50 ((fx - d.x) * ax + (fy - d.y) * ay)
  two : Sm 50 2
  b : Sm 50 (2 * ((fx - d.x) * ax + (fy - d.y) * ay))
  h0 : 0 ≤ h

theorem Fc.zero (M : Nat) : Fc 1 M (0 : Rat) := Fc.int 0 (M := M) (by simp)
theorem kpS0 {d a : Dc} (hd : Ds d) (ha : Ds a) : KpS d a.x a.y 0 0 0 := by
  have mx : Fc 1 (2 * 10 ^ 6) (a.x - d.x) := (ha.fx.sub hd.fx).mono (by decide)
  have my : Fc 1 (2 * 10 ^ 6) (a.y - d.y) := (ha.fy.sub hd.fy).mono (by decide)
  have m1 := mx.mul mx
  have m2 := my.mul my
  have mm := m1.add m2
  have zz : (0 : Rat) * 0 = 0 := Rat.mul_zero 0
  have za : (0 : Rat) + 0 = 0 := Rat.add_zero 0
  have z := f1 (Fc.zero 0) (by decide)
  refine ⟨hd.sx, hd.sy, hd.ss, ha.sx, ha.sy, z, z, z, f1 mx (by decide), f1 my (by decide), f1 m1 (by decide), f1 m2 (by decide), f1 mm (by decide), by rw [zz]; exact z, by rw [zz]; exact z, by rw [zz, za]; exact z, by rw [zz, za, zz]; exact z, ?_, ?_, ?_, ?_, ?_, f1 f_2 (by decide), ?_, by decide⟩
  · rw [zz, za, zz, Rat.add_zero]; exact f1 mm (by decide)
  · rw [zz, za, zz, Rat.add_zero]; exact f4 ((mm.lift 4 (by decide)).sub hd.fs) (by decide)
  · rw [Rat.mul_zero]; exact z
  · rw [Rat.mul_zero]; exact z
  · rw [Rat.mul_zero, Rat.mul_zero, za]; exact z
  · rw [Rat.mul_zero, Rat.mul_zero, za, Rat.mul_zero]; exact z
theorem kpS1 {d a b : Dc} (hd : Ds d) (ha : Ds a) (hb : Ds b) (h0 : Fr a b ≠ 0) (hn : 0 ≤ hh a b) {ax ay : Rat} (fa : Fc 1 (2 * 10 ^ 6) ax) (fb : Fc 1 (2 * 10 ^ 6) ay) : KpS d (fX a b) (fY a b) ax ay (hh a b) := by
  obtain ⟨F, e, hp, hF⟩ := far_ex ha hb h0
  have fx := f_fX ha hb e hp hF
  have fy := f_fY ha hb e hp hF
  have h := f_hh ha hb e hp hF
  have mx := f_m hp hF fx hd.fx
  have my := f_m hp hF fy hd.fy
  have m1 := mx.mul mx
  have m2 := my.mul my
  have mm := f_mm mx my
  have ah := f_ha h fa fb
  have xx := f_x hp hF mm ah hd.fs
  have b1 := mx.mul fa
  have b2 := my.mul fb
  have bb := f_b mx my fa fb
  rw [Nat.mul_one] at b1 b2
  have b := f_2.mul bb
  rw [Nat.one_mul] at b
  exact ⟨hd.sx, hd.sy, hd.ss, sm1 hF fx (by decide), sm1 hF fy (by decide), f1 fa (by decide), f1 fb (by decide), sm2 hF h (by decide), sm1 hF mx (by decide), sm1 hF my (by decide), sm2 hF m1 (by decide), sm2 hF m2 (by decide), sm2 hF mm (by decide),
    f1 (fa.mul fa) (by decide), f1 (fb.mul fb) (by decide), f1 ((fa.mul fa).add (fb.mul fb)) (by decide), sm2 hF ah (by decide), sm2 hF (mm.add ah) (by decide), sm2 hF xx (by decide),
    sm1 hF b1 (by decide), sm1 hF b2 (by decide), sm1 hF bb (by decide), f1 f_2 (by decide), sm1 hF b (by decide), hn⟩
theorem kpS2 {d a b : Dc} (hd : Ds d) (ha : Ds a) (hb : Ds b) (h0 : Fr a b ≠ 0) (hn : 0 ≤ hh a b) : KpS d (fX a b) (fY a b) (- dY a b) (dX a b) (hh a b) :=
  kpS1 hd ha hb h0 hn (f_dY ha hb).neg (f_dX ha hb)
theorem kpS3 {d a b : Dc} (hd : Ds d) (ha : Ds a) (hb : Ds b) (h0 : Fr a b ≠ 0) (hn : 0 ≤ hh a b) : KpS d (fX a b) (fY a b) (dY a b) (- dX a b) (hh a b) :=
  kpS1 hd ha hb h0 hn (f_dY ha hb) (f_dX ha hb).neg
end Rt

namespace Sh
open Geo Rt

structure Tg where
  x : Int
  y : Int
  lo : Int
  hi : Int
  tol : Int
  mat : Int
  pin : Bool
structure Ci where
  x : Int
  y : Int
  n : Int
instance : Inhabited Tg := ⟨⟨0, 0, 0, 0, 0, 0, false⟩⟩
instance : Inhabited Ci := ⟨⟨0, 0, 0⟩⟩

/-- a right target -/
structure Tok (t : Tg) : Prop where
  x1 : -100000 ≤ t.x
  x2 : t.x ≤ 100000
  y1 : -100000 ≤ t.y
  y2 : t.y ≤ 100000
  lo1 : 1 ≤ t.lo
  lo2 : t.lo ≤ 100000
  hi1 : 1 ≤ t.hi
  hi2 : t.hi ≤ 100000
  le : t.lo ≤ t.hi
  tol1 : 0 ≤ t.tol
  tol2 : t.tol ≤ 100000
  pin : t.pin = true ∨ t.tol < t.lo
  m1 : 0 ≤ t.mat
  m2 : t.mat ≤ 2
structure Cok (c : Ci) : Prop where
  x1 : -100000 ≤ c.x
  x2 : c.x ≤ 100000
  y1 : -100000 ≤ c.y
  y2 : c.y ≤ 100000
  n1 : 1 ≤ c.n
  n2 : c.n ≤ 100000
/-- and within its limits -/
structure Win (t : Tg) (c : Ci) : Prop where
  lo : t.lo ≤ c.n
  hi : c.n ≤ t.hi

/-- the bonus -/
def extra (t : Tg) (n : Int) : Int :=
  if t.mat = 0 then 0 else if t.pin then (if t.mat = 1 then t.hi - n else n - t.lo) else (if t.mat = 1 then n - t.lo else t.hi - n)
/-- the allowed tolerance -/
def alw (t : Tg) (c : Ci) : Int := t.tol + extra t c.n
theorem extra_bd {t : Tg} {c : Ci} (h : Tok t) (k : Win t c) : 0 ≤ extra t c.n ∧ extra t c.n ≤ 100000 := by
  have := h.lo1; have := h.hi2; have := k.lo; have := k.hi
  unfold extra
  split
  · omega
  · split <;> split <;> omega
theorem alw_bd {t : Tg} {c : Ci} (h : Tok t) (k : Win t c) : 0 ≤ alw t c ∧ alw t c ≤ 200000 := by
  have := extra_bd h k; have := h.tol1; have := h.tol2
  unfold alw; omega

/-- the disc around a place with a diameter -/
def around (x y d : Int) : Dc := ⟨(x : Rat), (y : Rat), Rat.divInt (d * d) 4⟩
theorem divInt4 (n : Int) : Rat.divInt n 4 * 4 = (n : Rat) := by
  rw [Rat.divInt_eq_div]
  have : ((4 : Int) : Rat) = 4 := by decide
  rw [this]; grind
theorem ds_around {x y d : Int} (hx : x.natAbs ≤ 10 ^ 6) (hy : y.natAbs ≤ 10 ^ 6) (hd : d.natAbs ≤ 10 ^ 6) : Ds (around x y d) := by
  refine ⟨⟨x, rfl, hx⟩, ⟨y, rfl, hy⟩, ⟨by decide, d * d, ?_, ?_⟩, ?_⟩
  · have : ((4 : Nat) : Rat) = 4 := by decide
    rw [this]; exact divInt4 _
  · rw [Int.natAbs_mul]
    exact Nat.le_trans (Nat.mul_le_mul hd hd) (by decide)
  · have h1 := divInt4 (d * d)
    have h2 : (0 : Rat) ≤ ((d * d : Int) : Rat) := by
      rw [Rat.intCast_mul]; exact sqnn _
    show 0 ≤ Rat.divInt (d * d) 4
    grind
/-- the zone of a target -/
def zone (t : Tg) (c : Ci) : Dc := around (t.x - c.x) (t.y - c.y) (alw t c)
theorem ds_zone {t : Tg} {c : Ci} (h : Tok t) (hc : Cok c) (k : Win t c) : Ds (zone t c) := by
  have := alw_bd h k
  have := h.x1; have := h.x2; have := h.y1; have := h.y2; have := hc.x1; have := hc.x2; have := hc.y1; have := hc.y2
  exact ds_around (by omega) (by omega) (by omega)
end Sh
