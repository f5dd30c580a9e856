
namespace Geo
theorem exMax (n : Nat) (P : Nat → Prop) (g : Nat → Rat) (h : ∃ k, k < n ∧ P k) : ∃ k, k < n ∧ P k ∧ ∀ l, l < n → P l → g l ≤ g k := by
  induction n with
  | zero => obtain ⟨k, h, _⟩ := h; omega
  | succ n ih =>
    by_cases hn : ∃ k, k < n ∧ P k
    · obtain ⟨k, hk, pk, hm⟩ := ih hn
      by_cases hp : P n ∧ g k ≤ g n
      · refine ⟨n, by omega, hp.1, fun l hl pl => ?_⟩
        by_cases e : l = n
        · subst e; exact Rat.le_refl
        · have := hm l (by omega) pl
          exact Rat.le_trans this hp.2
      · refine ⟨k, by omega, pk, fun l hl pl => ?_⟩
        by_cases e : l = n
        · subst e
          have : ¬ g k ≤ g l := fun h => hp ⟨pl, h⟩
          grind
        · exact hm l (by omega) pl
    · obtain ⟨k, hk, pk⟩ := h
      have e : k = n := by
        refine Classical.byContradiction fun e => hn ⟨k, by omega, pk⟩
      subst e
      refine ⟨k, by omega, pk, fun l hl pl => ?_⟩
      by_cases e : l = k
      · subst e; exact Rat.le_refl
      · exact (hn ⟨l, by omega, pl⟩).elim

theorem exMin (n : Nat) (P : Nat → Prop) (g : Nat → Rat) (h : ∃ k, k < n ∧ P k) : ∃ k, k < n ∧ P k ∧ ∀ l, l < n → P l → g k ≤ g l := by
  obtain ⟨k, hk, pk, hm⟩ := exMax n P (fun l => - g l) h
  refine ⟨k, hk, pk, fun l hl pl => ?_⟩
  have := hm l hl pl
  grind

structure Dc where
  x : Rat
  y : Rat
  s : Rat
  deriving DecidableEq

instance : Inhabited Dc := ⟨⟨0, 0, 0⟩⟩

def f (d : Dc) (px py : Rat) : Rat := (px - d.x) * (px - d.x) + (py - d.y) * (py - d.y) - d.s

def sg (a : Rat) : Int := if a < 0 then -1 else if 0 < a then 1 else 0

/-- the sign of a + b root c -/
def rsg (a b c : Rat) : Int :=
  if 0 ≤ sg a * (sg b * sg c) then (if sg a = 0 then sg b * sg c else sg a) else sg a * sg (a * a - b * b * c)

theorem sg_neg {a : Rat} (h : a < 0) : sg a = -1 := by unfold sg; rw [if_pos h]
theorem sg_pos {a : Rat} (h : 0 < a) : sg a = 1 := by unfold sg; rw [if_neg (by grind), if_pos h]
theorem sg_zero : sg 0 = 0 := by unfold sg; rw [if_neg (by grind), if_neg (by grind)]
theorem sg_le {a : Rat} (h : sg a ≤ 0) : a ≤ 0 := by
  by_cases h1 : 0 < a
  · rw [sg_pos h1] at h; omega
  · grind
theorem le_sg {a : Rat} (h : a ≤ 0) : sg a ≤ 0 := by
  by_cases h1 : a < 0
  · rw [sg_neg h1]; omega
  · have : a = 0 := by grind
    subst this; rw [sg_zero]; omega
theorem tri (a : Rat) : a < 0 ∨ a = 0 ∨ 0 < a := by grind

theorem mulpos {a b : Rat} (h : 0 < a) (h2 : 0 < b) : 0 < a * b := Rat.mul_pos h h2
theorem mulnn {a b : Rat} (h : 0 ≤ a) (h2 : 0 ≤ b) : 0 ≤ a * b := Rat.mul_nonneg h h2
theorem sqnn (a : Rat) : 0 ≤ a * a := by
  rcases tri a with h | h | h
  · have := mulpos (a := -a) (b := -a) (by grind) (by grind); grind
  · subst h; grind
  · have := mulpos h h; grind
theorem sqpos {a : Rat} (h : a ≠ 0) : 0 < a * a := by
  rcases tri a with h' | h' | h'
  · have := mulpos (a := -a) (b := -a) (by grind) (by grind); grind
  · exact (h h').elim
  · exact mulpos h' h'
/-- squares of non-negative numbers -/
theorem sq_le {a b : Rat} (_ha : 0 ≤ a) (hb : 0 ≤ b) (h : a * a ≤ b * b) : a ≤ b := by
  by_cases h1 : a ≤ b
  · exact h1
  · have := mulpos (a := a - b) (b := a + b) (by grind) (by grind)
    grind
theorem le_sq {a b : Rat} (ha : 0 ≤ a) (h : a ≤ b) : a * a ≤ b * b := by
  have := mulnn (a := b - a) (b := a + b) (by grind) (by grind)
  grind

theorem rsg_up {a b c w : Rat} (hb : 0 ≤ b) (h : rsg a b c ≤ 0) (hw : 0 ≤ w) (hwc : w * w ≤ c) : a + b * w ≤ 0 := by
  refine Classical.byContradiction fun hn => ?_
  have hn : 0 < a + b * w := by grind
  rcases tri a with ha | ha | ha
  · have hbw : 0 < b * w := by grind
    have hb' : 0 < b := by
      rcases tri b with h1 | h1 | h1
      · grind
      · subst h1; grind
      · exact h1
    have hw' : 0 < w := by
      rcases tri w with h1 | h1 | h1
      · grind
      · subst h1; grind
      · exact h1
    have hc : 0 < c := by have := mulpos hw' hw'; grind
    unfold rsg at h
    rw [sg_neg ha, sg_pos hb', sg_pos hc, if_neg (by omega)] at h
    have h2 : 0 ≤ a * a - b * b * c := by
      rcases tri (a * a - b * b * c) with h1 | h1 | h1
      · rw [sg_neg h1] at h; omega
      · grind
      · grind
    have h3 : (b * w) * (b * w) ≤ (-a) * (-a) := by
      have := Rat.mul_le_mul_of_nonneg_left hwc (sqnn b)
      grind
    have := sq_le (by grind) (by grind) h3
    grind
  · subst ha
    have hbw : 0 < b * w := by grind
    have hb' : 0 < b := by
      rcases tri b with h1 | h1 | h1
      · grind
      · subst h1; grind
      · exact h1
    have hw' : 0 < w := by
      rcases tri w with h1 | h1 | h1
      · grind
      · subst h1; grind
      · exact h1
    have hc : 0 < c := by have := mulpos hw' hw'; grind
    unfold rsg at h
    rw [sg_zero, sg_pos hb', sg_pos hc] at h
    simp at h
  · have hc : 0 ≤ c := by have := sqnn w; grind
    have ht : 0 ≤ sg b * sg c := by
      rcases tri b with h1 | h1 | h1
      · grind
      · subst h1; rw [sg_zero]; omega
      · rcases tri c with h2 | h2 | h2
        · grind
        · subst h2; rw [sg_zero]; omega
        · rw [sg_pos h1, sg_pos h2]; omega
    unfold rsg at h
    rw [sg_pos ha, if_pos (by omega)] at h
    simp at h

theorem rsg_dn {a b c : Rat} (hb : b < 0) (hc : 0 ≤ c) (h : rsg a b c ≤ 0) : a ≤ 0 ∨ a * a ≤ b * b * c := by
  rcases tri a with ha | ha | ha
  · left; grind
  · left; grind
  · right
    rcases tri c with h2 | h2 | h2
    · grind
    · subst h2
      unfold rsg at h
      rw [sg_pos ha, sg_zero, if_pos (by omega)] at h
      simp at h
    · unfold rsg at h
      rw [sg_pos ha, sg_neg hb, sg_pos h2, if_neg (by omega)] at h
      have := sg_le (a := a * a - b * b * c) (by omega)
      grind

theorem rsg_of_dn {a b c w : Rat} (hb : b ≤ 0) (hw : 0 ≤ w) (hwc : w * w ≤ c) (h : a + b * w ≤ 0) : rsg a b c ≤ 0 := by
  have hc : 0 ≤ c := by have := sqnn w; grind
  have ht : sg b * sg c ≤ 0 := by
    rcases tri b with h1 | h1 | h1
    · rcases tri c with h2 | h2 | h2
      · grind
      · subst h2; rw [sg_zero]; omega
      · rw [sg_neg h1, sg_pos h2]; omega
    · subst h1; rw [sg_zero]; omega
    · grind
  unfold rsg
  rcases tri a with ha | ha | ha
  · rw [sg_neg ha, if_pos (by omega)]; simp
  · subst ha; rw [sg_zero]; simpa using ht
  · have hb' : b < 0 := by
      rcases tri b with h1 | h1 | h1
      · exact h1
      · subst h1; grind
      · grind
    have hw' : 0 < w := by
      rcases tri w with h1 | h1 | h1
      · grind
      · subst h1; grind
      · exact h1
    have hc' : 0 < c := by have := mulpos hw' hw'; grind
    rw [sg_pos ha, sg_neg hb', sg_pos hc', if_neg (by omega)]
    have h3 : a * a ≤ (-b * w) * (-b * w) := le_sq (by grind) (by grind)
    have h4 := Rat.mul_le_mul_of_nonneg_left hwc (sqnn b)
    have := le_sg (a := a * a - b * b * c) (by grind)
    omega

theorem rsg_of_up {a b c u : Rat} (hb : 0 < b) (hu : 0 ≤ u) (hc : 0 ≤ c) (huc : c ≤ u * u) (h : a + b * u ≤ 0) : rsg a b c ≤ 0 := by
  have hbu := mulnn (a := b) (b := u) (by grind) hu
  unfold rsg
  rcases tri a with ha | ha | ha
  · rcases tri c with h2 | h2 | h2
    · grind
    · subst h2; rw [sg_neg ha, sg_zero, if_pos (by omega)]; simp
    · rw [sg_neg ha, sg_pos hb, sg_pos h2, if_neg (by omega)]
      have h3 : (b * u) * (b * u) ≤ (-a) * (-a) := le_sq hbu (by grind)
      have h4 := Rat.mul_le_mul_of_nonneg_left huc (sqnn b)
      have h5 : 0 ≤ a * a - b * b * c := by grind
      rcases tri (a * a - b * b * c) with h1 | h1 | h1
      · grind
      · rw [h1, sg_zero]; omega
      · rw [sg_pos h1]; omega
  · subst ha
    have hu0 : u = 0 := by
      rcases tri u with h1 | h1 | h1
      · grind
      · exact h1
      · have := mulpos hb h1; grind
    subst hu0
    have : c = 0 := by grind
    subst this
    rw [sg_zero]; simp
  · grind

/-- the place foot + root h times across is in the disc -/
def Kp (d : Dc) (fx fy ax ay h : Rat) : Prop :=
  rsg ((fx - d.x) * (fx - d.x) + (fy - d.y) * (fy - d.y) + h * (ax * ax + ay * ay) - d.s) (2 * ((fx - d.x) * ax + (fy - d.y) * ay)) h ≤ 0

def dX (a b : Dc) : Rat := b.x - a.x
def dY (a b : Dc) : Rat := b.y - a.y
def Fr (a b : Dc) : Rat := dX a b * dX a b + dY a b * dY a b
def tt (a b : Dc) : Rat := (Fr a b + a.s - b.s) / (2 * Fr a b)
def fX (a b : Dc) : Rat := a.x + tt a b * dX a b
def fY (a b : Dc) : Rat := a.y + tt a b * dY a b
def hh (a b : Dc) : Rat := a.s / Fr a b - tt a b * tt a b

/-- the witness (i, j, side) of the discs c 0 .. c (n - 1) -/
def Prv (c : Nat → Dc) (n i j : Nat) (side : Int) : Prop :=
  if i = j then side = 0 ∧ ∀ k, k < n → Kp (c k) (c i).x (c i).y 0 0 0
  else Fr (c i) (c j) ≠ 0 ∧ 0 ≤ hh (c i) (c j) ∧ (hh (c i) (c j) = 0 ↔ side = 0) ∧
    ∀ k, k < n → if side < 0 then Kp (c k) (fX (c i) (c j)) (fY (c i) (c j)) (dY (c i) (c j)) (- dX (c i) (c j)) (hh (c i) (c j))
      else Kp (c k) (fX (c i) (c j)) (fY (c i) (c j)) (- dY (c i) (c j)) (dX (c i) (c j)) (hh (c i) (c j))

theorem sg_zero_r (a : Rat) : rsg a 0 0 = sg a := by
  unfold rsg; rw [sg_zero]; simp; intro h; exact h.symm

theorem foldW (al be : Nat → Rat) (h : Rat) (hh : 0 ≤ h) (n : Nat) (hk : ∀ k, k < n → rsg (al k) (be k) h ≤ 0) :
    ∃ w, 0 ≤ w ∧ w * w ≤ h ∧ ∀ k, k < n → al k + be k * w ≤ 0 := by
  induction n with
  | zero => exact ⟨0, by grind, by grind, fun k hk => by omega⟩
  | succ n ih =>
    obtain ⟨w, hw, hwh, hl⟩ := ih (fun k hk' => hk k (by omega))
    by_cases hb : 0 ≤ be n
    · refine ⟨w, hw, hwh, fun k hk' => ?_⟩
      by_cases e : k = n
      · subst e; exact rsg_up hb (hk k (by omega)) hw hwh
      · exact hl k (by omega)
    · have hb : be n < 0 := by grind
      by_cases h0 : al n + be n * w ≤ 0
      · refine ⟨w, hw, hwh, fun k hk' => ?_⟩
        by_cases e : k = n
        · subst e; exact h0
        · exact hl k (by omega)
      · have h0 : 0 < al n + be n * w := by grind
        have hbw := mulnn (a := - be n) (b := w) (by grind) hw
        have he : (al n / (- be n)) * (- be n) = al n := Rat.div_mul_cancel (by grind)
        have hlt : w < al n / (- be n) := by
          refine Classical.byContradiction fun hn => ?_
          have := Rat.mul_le_mul_of_nonneg_left (a := al n / (- be n)) (b := w) (c := - be n) (by grind) (by grind)
          grind
        have hsq : (al n / (- be n)) * (al n / (- be n)) ≤ h := by
          have := rsg_dn hb hh (hk n (by omega))
          have h2 : al n * al n ≤ be n * be n * h := by
            rcases this with h2 | h2
            · grind
            · exact h2
          refine Classical.byContradiction fun hn => ?_
          have h3 := mulpos (a := (al n / (- be n)) * (al n / (- be n)) - h) (b := be n * be n) (by grind) (sqpos (by grind))
          generalize al n / (- be n) = q at *
          have h4 : q * q * (be n * be n) = al n * al n := by rw [← he]; grind
          grind
        refine ⟨al n / (- be n), by grind, hsq, fun k hk' => ?_⟩
        by_cases e : k = n
        · subst e; grind
        · by_cases hbk : 0 ≤ be k
          · exact rsg_up hbk (hk k (by omega)) (by grind) hsq
          · have := hl k (by omega)
            have h5 := Rat.mul_le_mul_of_nonneg_left (a := w) (b := al n / (- be n)) (c := - be k) (by grind) (by grind)
            grind

/-- (R) a witness gives a rational common point -/
theorem point_of_witness {c : Nat → Dc} {n i j : Nat} {side : Int} (h : Prv c n i j side) : ∃ px py, ∀ k, k < n → f (c k) px py ≤ 0 := by
  unfold Prv at h
  split at h
  · obtain ⟨_, h⟩ := h
    refine ⟨(c i).x, (c i).y, fun k hk => ?_⟩
    have := h k hk
    unfold Kp at this
    have e : (2 * (((c i).x - (c k).x) * 0 + ((c i).y - (c k).y) * 0) : Rat) = 0 := by grind
    rw [e, sg_zero_r] at this
    have := sg_le this
    unfold f
    grind
  · obtain ⟨hF, h0, _, h⟩ := h
    generalize hh (c i) (c j) = H at *
    generalize fX (c i) (c j) = fx at *
    generalize fY (c i) (c j) = fy at *
    generalize dX (c i) (c j) = dx at *
    generalize dY (c i) (c j) = dy at *
    obtain ⟨ax, ay, hx⟩ : ∃ ax ay, ∀ k, k < n → Kp (c k) fx fy ax ay H := by
      by_cases hs : side < 0
      · exact ⟨dy, -dx, fun k hk => by have := h k hk; rwa [if_pos hs] at this⟩
      · exact ⟨-dy, dx, fun k hk => by have := h k hk; rwa [if_neg hs] at this⟩
    obtain ⟨w, hw, hwh, hl⟩ := foldW (fun k => (fx - (c k).x) * (fx - (c k).x) + (fy - (c k).y) * (fy - (c k).y) + H * (ax * ax + ay * ay) - (c k).s)
      (fun k => 2 * ((fx - (c k).x) * ax + (fy - (c k).y) * ay)) H h0 n (fun k hk => hx k hk)
    refine ⟨fx + w * ax, fy + w * ay, fun k hk => ?_⟩
    have h1 := hl k hk
    have h2 := mulnn (a := H - w * w) (b := ax * ax + ay * ay) (by grind) (by have := sqnn ax; have := sqnn ay; grind)
    unfold f
    grind

/-! Helly -/
def Cvx (C : Rat → Rat → Prop) : Prop := ∀ x y u v t, 0 ≤ t → t ≤ 1 → C x y → C u v → C ((1 - t) * x + t * u) ((1 - t) * y + t * v)

theorem cvx_disc (d : Dc) : Cvx (fun x y => f d x y ≤ 0) := by
  intro x y u v t h0 h1 hx hu
  unfold f at *
  have h2 := mulnn (a := 1 - t) (b := d.s - ((x - d.x) * (x - d.x) + (y - d.y) * (y - d.y))) (by grind) (by grind)
  have h3 := mulnn (a := t) (b := d.s - ((u - d.x) * (u - d.x) + (v - d.y) * (v - d.y))) (by grind) (by grind)
  have h4 := mulnn (mulnn h0 (b := 1 - t) (by grind)) (b := (x - u) * (x - u) + (y - v) * (y - v)) (by have := sqnn (x - u); have := sqnn (y - v); grind)
  grind

theorem cvx_and {C D : Rat → Rat → Prop} (h : Cvx C) (k : Cvx D) : Cvx (fun x y => C x y ∧ D x y) :=
  fun x y u v t h0 h1 a b => ⟨h x y u v t h0 h1 a.1 b.1, k x y u v t h0 h1 a.2 b.2⟩

theorem inv_nn {a : Rat} (h : 0 < a) : 0 ≤ a⁻¹ := by
  rcases tri a⁻¹ with h' | h' | h'
  · have := mulpos (a := a) (b := - a⁻¹) h (by grind); grind
  · grind
  · grind

theorem comb2 {C : Rat → Rat → Prop} (hC : Cvx C) {a b x1 y1 x2 y2 : Rat} (ha : 0 ≤ a) (hb : 0 ≤ b) (hs : 0 < a + b) (h1 : 0 < a → C x1 y1) (h2 : 0 < b → C x2 y2) :
    C ((a * x1 + b * x2) / (a + b)) ((a * y1 + b * y2) / (a + b)) := by
  have hne : a + b ≠ 0 := by grind
  by_cases ha0 : a = 0
  · subst ha0
    have := h2 (by grind)
    have e1 : (0 * x1 + b * x2) / (0 + b) = x2 := by grind
    have e2 : (0 * y1 + b * y2) / (0 + b) = y2 := by grind
    rwa [e1, e2]
  · by_cases hb0 : b = 0
    · subst hb0
      have := h1 (by grind)
      have e1 : (a * x1 + 0 * x2) / (a + 0) = x1 := by grind
      have e2 : (a * y1 + 0 * y2) / (a + 0) = y1 := by grind
      rwa [e1, e2]
    · have h := hC x1 y1 x2 y2 (b / (a + b)) ?_ ?_ (h1 (by grind)) (h2 (by grind))
      · have e1 : (1 - b / (a + b)) * x1 + b / (a + b) * x2 = (a * x1 + b * x2) / (a + b) := by grind
        have e2 : (1 - b / (a + b)) * y1 + b / (a + b) * y2 = (a * y1 + b * y2) / (a + b) := by grind
        rwa [e1, e2] at h
      · rw [Rat.div_def]; exact mulnn hb (inv_nn hs)
      · have e : b / (a + b) = 1 - a / (a + b) := by grind
        have : 0 ≤ a / (a + b) := by rw [Rat.div_def]; exact mulnn ha (inv_nn hs)
        grind

theorem comb3 {C : Rat → Rat → Prop} (hC : Cvx C) {a b c x1 y1 x2 y2 x3 y3 : Rat} (ha : 0 ≤ a) (hb : 0 ≤ b) (hc : 0 ≤ c) (hs : 0 < a + b + c)
    (h1 : 0 < a → C x1 y1) (h2 : 0 < b → C x2 y2) (h3 : 0 < c → C x3 y3) :
    C ((a * x1 + b * x2 + c * x3) / (a + b + c)) ((a * y1 + b * y2 + c * y3) / (a + b + c)) := by
  by_cases h : 0 < a + b
  · have hne : a + b ≠ 0 := by grind
    have := comb2 hC (a := a + b) (b := c) (x1 := (a * x1 + b * x2) / (a + b)) (y1 := (a * y1 + b * y2) / (a + b)) (x2 := x3) (y2 := y3) (by grind) hc hs (fun _ => comb2 hC ha hb h h1 h2) h3
    have e1 : (a + b) * ((a * x1 + b * x2) / (a + b)) = a * x1 + b * x2 := by grind
    have e2 : (a + b) * ((a * y1 + b * y2) / (a + b)) = a * y1 + b * y2 := by grind
    rwa [e1, e2] at this
  · have e1 : a = 0 := by grind
    have e2 : b = 0 := by grind
    subst e1; subst e2
    have := h3 (by grind)
    have e1 : (0 * x1 + 0 * x2 + c * x3) / (0 + 0 + c) = x3 := by grind
    have e2 : (0 * y1 + 0 * y2 + c * y3) / (0 + 0 + c) = y3 := by grind
    rwa [e1, e2]

theorem comb4 {C : Rat → Rat → Prop} (hC : Cvx C) {a b c d x1 y1 x2 y2 x3 y3 x4 y4 : Rat} (ha : 0 ≤ a) (hb : 0 ≤ b) (hc : 0 ≤ c) (hd : 0 ≤ d) (hs : 0 < a + b + c + d)
    (h1 : 0 < a → C x1 y1) (h2 : 0 < b → C x2 y2) (h3 : 0 < c → C x3 y3) (h4 : 0 < d → C x4 y4) :
    C ((a * x1 + b * x2 + c * x3 + d * x4) / (a + b + c + d)) ((a * y1 + b * y2 + c * y3 + d * y4) / (a + b + c + d)) := by
  by_cases h : 0 < a + b + c
  · have hne : a + b + c ≠ 0 := by grind
    have := comb2 hC (a := a + b + c) (b := d) (x1 := (a * x1 + b * x2 + c * x3) / (a + b + c)) (y1 := (a * y1 + b * y2 + c * y3) / (a + b + c)) (x2 := x4) (y2 := y4) (by grind) hd hs (fun _ => comb3 hC ha hb hc h h1 h2 h3) h4
    have e1 : (a + b + c) * ((a * x1 + b * x2 + c * x3) / (a + b + c)) = a * x1 + b * x2 + c * x3 := by grind
    have e2 : (a + b + c) * ((a * y1 + b * y2 + c * y3) / (a + b + c)) = a * y1 + b * y2 + c * y3 := by grind
    rwa [e1, e2] at this
  · have e1 : a = 0 := by grind
    have e2 : b = 0 := by grind
    have e3 : c = 0 := by grind
    subst e1; subst e2; subst e3
    have := h4 (by grind)
    have e1 : (0 * x1 + 0 * x2 + 0 * x3 + d * x4) / (0 + 0 + 0 + d) = x4 := by grind
    have e2 : (0 * y1 + 0 * y2 + 0 * y3 + d * y4) / (0 + 0 + 0 + d) = y4 := by grind
    rwa [e1, e2]

theorem radon (x1 y1 x2 y2 x3 y3 x4 y4 : Rat) : ∃ a b c d : Rat, (a ≠ 0 ∨ b ≠ 0 ∨ c ≠ 0 ∨ d ≠ 0) ∧ a + b + c + d = 0 ∧
    a * x1 + b * x2 + c * x3 + d * x4 = 0 ∧ a * y1 + b * y2 + c * y3 + d * y4 = 0 := by
  by_cases h : (x2 - x1) * (y3 - y1) - (x3 - x1) * (y2 - y1) = 0
  · by_cases e : x1 = x2 ∧ y1 = y2
    · obtain ⟨rfl, rfl⟩ := e
      exact ⟨1, -1, 0, 0, by grind, by grind, by grind, by grind⟩
    · refine ⟨(x2 - x1) * (x2 - x1) + (y2 - y1) * (y2 - y1) - ((x3 - x1) * (x2 - x1) + (y3 - y1) * (y2 - y1)), (x3 - x1) * (x2 - x1) + (y3 - y1) * (y2 - y1),
        - ((x2 - x1) * (x2 - x1) + (y2 - y1) * (y2 - y1)), 0, ?_, by grind, ?_, ?_⟩
      · have : 0 < (x2 - x1) * (x2 - x1) + (y2 - y1) * (y2 - y1) := by
          by_cases e1 : x1 = x2
          · have e2 : y2 - y1 ≠ 0 := by grind
            have := sqpos e2; have := sqnn (x2 - x1); grind
          · have e2 : x2 - x1 ≠ 0 := by grind
            have := sqpos e2; have := sqnn (y2 - y1); grind
        grind
      · have e1 : ((x2 - x1) * (y3 - y1) - (x3 - x1) * (y2 - y1)) * (y2 - y1) = 0 := by rw [h]; grind
        grind
      · have e1 : ((x2 - x1) * (y3 - y1) - (x3 - x1) * (y2 - y1)) * (x2 - x1) = 0 := by rw [h]; grind
        grind
  · refine ⟨(x3 - x2) * (y4 - y2) - (x4 - x2) * (y3 - y2), - ((x3 - x1) * (y4 - y1) - (x4 - x1) * (y3 - y1)), (x2 - x1) * (y4 - y1) - (x4 - x1) * (y2 - y1),
      - ((x2 - x1) * (y3 - y1) - (x3 - x1) * (y2 - y1)), ?_, by grind, by grind, by grind⟩
    right; right; right; grind

def ps (a : Rat) : Rat := if 0 < a then a else 0
theorem ps_nn (a : Rat) : 0 ≤ ps a := by unfold ps; split <;> grind
theorem ps_eq (a : Rat) : a = ps a - ps (-a) := by unfold ps; split <;> split <;> grind
theorem ps_or (a : Rat) : ps a = 0 ∨ ps (-a) = 0 := by unfold ps; split <;> split <;> grind
theorem ps_zero {a : Rat} (h : ps a = 0) (h' : ps (-a) = 0) : a = 0 := by have := ps_eq a; grind

theorem helly4 {A B C D : Rat → Rat → Prop} (hA : Cvx A) (hB : Cvx B) (hC : Cvx C) (hD : Cvx D)
    (h1 : ∃ x y, B x y ∧ C x y ∧ D x y) (h2 : ∃ x y, A x y ∧ C x y ∧ D x y) (h3 : ∃ x y, A x y ∧ B x y ∧ D x y) (h4 : ∃ x y, A x y ∧ B x y ∧ C x y) :
    ∃ x y, A x y ∧ B x y ∧ C x y ∧ D x y := by
  obtain ⟨x1, y1, b1, c1, d1⟩ := h1
  obtain ⟨x2, y2, a2, c2, d2⟩ := h2
  obtain ⟨x3, y3, a3, b3, d3⟩ := h3
  obtain ⟨x4, y4, a4, b4, c4⟩ := h4
  obtain ⟨a, b, c, d, hn, hs, hx, hy⟩ := radon x1 y1 x2 y2 x3 y3 x4 y4
  have ea := ps_eq a; have eb := ps_eq b; have ec := ps_eq c; have ed := ps_eq d
  have na := ps_nn a; have nb := ps_nn b; have nc := ps_nn c; have nd := ps_nn d
  have ma := ps_nn (-a); have mb := ps_nn (-b); have mc := ps_nn (-c); have md := ps_nn (-d)
  have za := ps_or a; have zb := ps_or b; have zc := ps_or c; have zd := ps_or d
  have hpos : 0 < ps a + ps b + ps c + ps d := by
    rcases tri (ps a + ps b + ps c + ps d) with h | h | h
    · grind
    · have e1 : ps a = 0 := by grind
      have e2 : ps b = 0 := by grind
      have e3 : ps c = 0 := by grind
      have e4 : ps d = 0 := by grind
      have f1 : ps (-a) = 0 := by grind
      have f2 : ps (-b) = 0 := by grind
      have f3 : ps (-c) = 0 := by grind
      have f4 : ps (-d) = 0 := by grind
      have := ps_zero e1 f1; have := ps_zero e2 f2; have := ps_zero e3 f3; have := ps_zero e4 f4
      grind
    · exact h
  have hsum : ps (-a) + ps (-b) + ps (-c) + ps (-d) = ps a + ps b + ps c + ps d := by grind
  have hX : ps (-a) * x1 + ps (-b) * x2 + ps (-c) * x3 + ps (-d) * x4 = ps a * x1 + ps b * x2 + ps c * x3 + ps d * x4 := by grind
  have hY : ps (-a) * y1 + ps (-b) * y2 + ps (-c) * y3 + ps (-d) * y4 = ps a * y1 + ps b * y2 + ps c * y3 + ps d * y4 := by grind
  refine ⟨(ps a * x1 + ps b * x2 + ps c * x3 + ps d * x4) / (ps a + ps b + ps c + ps d), (ps a * y1 + ps b * y2 + ps c * y3 + ps d * y4) / (ps a + ps b + ps c + ps d), ?_, ?_, ?_, ?_⟩
  · rcases za with z | z
    · exact comb4 hA na nb nc nd hpos (fun h => by grind) (fun _ => a2) (fun _ => a3) (fun _ => a4)
    · have := comb4 hA (x1 := x1) (y1 := y1) ma mb mc md (by grind) (fun h => by grind) (fun _ => a2) (fun _ => a3) (fun _ => a4)
      rwa [hX, hY, hsum] at this
  · rcases zb with z | z
    · exact comb4 hB na nb nc nd hpos (fun _ => b1) (fun h => by grind) (fun _ => b3) (fun _ => b4)
    · have := comb4 hB (x2 := x2) (y2 := y2) ma mb mc md (by grind) (fun _ => b1) (fun h => by grind) (fun _ => b3) (fun _ => b4)
      rwa [hX, hY, hsum] at this
  · rcases zc with z | z
    · exact comb4 hC na nb nc nd hpos (fun _ => c1) (fun _ => c2) (fun h => by grind) (fun _ => c4)
    · have := comb4 hC (x3 := x3) (y3 := y3) ma mb mc md (by grind) (fun _ => c1) (fun _ => c2) (fun h => by grind) (fun _ => c4)
      rwa [hX, hY, hsum] at this
  · rcases zd with z | z
    · exact comb4 hD na nb nc nd hpos (fun _ => d1) (fun _ => d2) (fun _ => d3) (fun h => by grind)
    · have := comb4 hD (x4 := x4) (y4 := y4) ma mb mc md (by grind) (fun _ => d1) (fun _ => d2) (fun _ => d3) (fun h => by grind)
      rwa [hX, hY, hsum] at this

theorem helly (l : List (Rat → Rat → Prop)) (hl : ∀ C ∈ l, Cvx C) (h3 : ∀ A ∈ l, ∀ B ∈ l, ∀ C ∈ l, ∃ x y, A x y ∧ B x y ∧ C x y) :
    ∃ x y : Rat, ∀ C ∈ l, C x y := by
  generalize hn : l.length = n
  induction n generalizing l with
  | zero => cases l with
    | nil => exact ⟨0, 0, fun C h => by cases h⟩
    | cons a t => simp at hn
  | succ n ih =>
    cases l with
    | nil => simp at hn
    | cons D t =>
      cases t with
      | nil =>
        obtain ⟨x, y, h, _, _⟩ := h3 D (by simp) D (by simp) D (by simp)
        exact ⟨x, y, fun C hC => by simp at hC; subst hC; exact h⟩
      | cons E t =>
        obtain ⟨x, y, h⟩ := ih ((E :: t).map fun C => fun x y => C x y ∧ D x y) (by
            intro C hC
            obtain ⟨C', hC', rfl⟩ := List.mem_map.1 hC
            exact cvx_and (hl C' (List.mem_cons_of_mem _ hC')) (hl D (by simp))) (by
            intro A hA B hB C hC
            obtain ⟨A', hA', rfl⟩ := List.mem_map.1 hA
            obtain ⟨B', hB', rfl⟩ := List.mem_map.1 hB
            obtain ⟨C', hC', rfl⟩ := List.mem_map.1 hC
            have mA := List.mem_cons_of_mem D hA'
            have mB := List.mem_cons_of_mem D hB'
            have mC := List.mem_cons_of_mem D hC'
            have mD : D ∈ D :: E :: t := by simp
            obtain ⟨x, y, a, b, c, d⟩ := helly4 (hl _ mA) (hl _ mB) (hl _ mC) (hl _ mD) (h3 _ mB _ mC _ mD) (h3 _ mA _ mC _ mD) (h3 _ mA _ mB _ mD) (h3 _ mA _ mB _ mC)
            exact ⟨x, y, ⟨a, d⟩, ⟨b, d⟩, ⟨c, d⟩⟩) (by simpa using hn)
        refine ⟨x, y, fun C hC => ?_⟩
        rcases List.mem_cons.1 hC with rfl | hC
        · exact (h _ (List.mem_map.2 ⟨E, by simp, rfl⟩)).2
        · exact (h _ (List.mem_map.2 ⟨C, hC, rfl⟩)).1

theorem Fr_nn (a b : Dc) : 0 ≤ Fr a b := by unfold Fr; have := sqnn (dX a b); have := sqnn (dY a b); grind
theorem Fr_pos {a b : Dc} (h : ¬ (a.x = b.x ∧ a.y = b.y)) : 0 < Fr a b := by
  unfold Fr
  by_cases e : a.x = b.x
  · have e2 : dY a b ≠ 0 := by unfold dY; grind
    have := sqpos e2; have := sqnn (dX a b); grind
  · have e2 : dX a b ≠ 0 := by unfold dX; grind
    have := sqpos e2; have := sqnn (dY a b); grind

/-- f of c_k on the line of a and b: al + be w + F (w^2 - h) -/
def al (a b k : Dc) : Rat := (fX a b - k.x) * (fX a b - k.x) + (fY a b - k.y) * (fY a b - k.y) + hh a b * (dX a b * dX a b + dY a b * dY a b) - k.s
def be (a b k : Dc) : Rat := 2 * ((fX a b - k.x) * (- dY a b) + (fY a b - k.y) * dX a b)
theorem f_line (a b k : Dc) (w : Rat) : f k (fX a b + w * (- dY a b)) (fY a b + w * dX a b) = al a b k + be a b k * w + Fr a b * (w * w - hh a b) := by
  unfold f al be Fr; grind

theorem tt_F {a b : Dc} (h : Fr a b ≠ 0) : tt a b * (2 * Fr a b) = Fr a b + a.s - b.s := by unfold tt; exact Rat.div_mul_cancel (by grind)
theorem hh_F {a b : Dc} (h : Fr a b ≠ 0) : hh a b * Fr a b = a.s - tt a b * tt a b * Fr a b := by
  unfold hh
  have : a.s / Fr a b * Fr a b = a.s := Rat.div_mul_cancel h
  grind
theorem al_a {a b : Dc} (h : Fr a b ≠ 0) : al a b a = 0 := by
  have h1 := hh_F h
  unfold al fX fY
  unfold Fr at *
  grind
theorem be_a (a b : Dc) : be a b a = 0 := by unfold be fX fY; grind
theorem al_b {a b : Dc} (h : Fr a b ≠ 0) : al a b b = 0 := by
  have h1 := hh_F h
  have h2 := tt_F h
  have e1 : fX a b - b.x = (tt a b - 1) * dX a b := by unfold fX dX; grind
  have e2 : fY a b - b.y = (tt a b - 1) * dY a b := by unfold fY dY; grind
  unfold al
  rw [e1, e2]
  unfold Fr at *
  grind
theorem be_b (a b : Dc) : be a b b = 0 := by
  have e1 : fX a b - b.x = (tt a b - 1) * dX a b := by unfold fX dX; grind
  have e2 : fY a b - b.y = (tt a b - 1) * dY a b := by unfold fY dY; grind
  unfold be; rw [e1, e2]; grind
theorem Fr_comm (a b : Dc) : Fr b a = Fr a b := by unfold Fr dX dY; grind
theorem tt_comm {a b : Dc} (h : Fr a b ≠ 0) : tt b a = 1 - tt a b := by
  have h1 := tt_F h
  have h2 := tt_F (a := b) (b := a) (by rw [Fr_comm]; exact h)
  rw [Fr_comm] at h2
  have h3 : (tt b a - (1 - tt a b)) * (2 * Fr a b) = 0 := by grind
  rcases Rat.mul_eq_zero.1 h3 with h | h <;> grind
theorem hh_comm {a b : Dc} (h : Fr a b ≠ 0) : hh b a = hh a b := by
  have h1 := hh_F h
  have h2 := hh_F (a := b) (b := a) (by rw [Fr_comm]; exact h)
  rw [Fr_comm, tt_comm h] at h2
  have h4 := tt_F h
  have h3 : (hh b a - hh a b) * Fr a b = 0 := by grind
  rcases Rat.mul_eq_zero.1 h3 with h | h <;> grind
theorem fX_comm {a b : Dc} (h : Fr a b ≠ 0) : fX b a = fX a b := by unfold fX; rw [tt_comm h]; unfold dX; grind
theorem fY_comm {a b : Dc} (h : Fr a b ≠ 0) : fY b a = fY a b := by unfold fY; rw [tt_comm h]; unfold dY; grind
theorem dX_comm (a b : Dc) : dX b a = - dX a b := by unfold dX; grind
theorem dY_comm (a b : Dc) : dY b a = - dY a b := by unfold dY; grind

/-- the two orders of a pair name the same places -/
theorem prv_swap {c : Nat → Dc} {n i j : Nat} {side : Int} (hij : i ≠ j) (hs : side = 0 ∨ side = 1 ∨ side = -1) (h : Prv c n i j side) : Prv c n j i (- side) := by
  unfold Prv at *
  rw [if_neg hij] at h
  rw [if_neg (fun e => hij e.symm)]
  obtain ⟨hF, h0, hz, h⟩ := h
  rw [Fr_comm, hh_comm hF, fX_comm hF, fY_comm hF, dX_comm (c i) (c j), dY_comm (c i) (c j)]
  refine ⟨hF, h0, by rw [hz]; omega, fun k hk => ?_⟩
  have := h k hk
  rcases hs with rfl | rfl | rfl
  · rw [if_neg (by decide)] at this ⊢
    have e := hz.2 rfl
    rw [e] at this ⊢
    unfold Kp at *
    have z : ∀ a b : Rat, rsg a b 0 = sg a := by intro a b; unfold rsg; rw [sg_zero]; simp; intro h; exact h.symm
    rw [z] at this ⊢
    grind
  · rw [if_neg (by decide)] at this
    rw [if_pos (by decide)]
    have e : (- -dX (c i) (c j)) = dX (c i) (c j) := by grind
    rwa [e]
  · rw [if_pos (by decide)] at this
    rw [if_neg (by decide)]
    have e : (- -dY (c i) (c j)) = dY (c i) (c j) := by grind
    rwa [e]

/-- what a walk along the lines has reached -/
def At (c : Nat → Dc) (n : Nat) (x y v : Rat) : Prop :=
  (∃ i j, i < n ∧ j < n ∧ ¬ ((c i).x = (c j).x ∧ (c i).y = (c j).y) ∧ f (c i) x y = v ∧ f (c j) x y = v) ∧ ∀ k, k < n → f (c k) x y ≤ v

def Wit (c : Nat → Dc) (n : Nat) : Prop := ∃ i j side, i < n ∧ j < n ∧ (side = 0 ∨ side = 1 ∨ side = -1) ∧ Prv c n i j side

/-- the height where the lines of a, b and a, k meet -/
def val (a b k : Dc) : Rat := Fr a b * ((al a b k / be a b k) * (al a b k / be a b k) - hh a b)

theorem ax1 {A B w0 s X v : Rat} (h : A + B * w0 + X ≤ v) (hv : 0 + 0 * w0 + X = v) (hs : s = 1 ∨ s = -1) : A + s * B * (s * w0) ≤ 0 := by
  rcases hs with rfl | rfl <;> grind
theorem ax2 {A B s : Rat} (hB : B ≠ 0) (hs : s = 1 ∨ s = -1) : (-A) / (s * B) = - (s * (A / B)) := by
  rcases hs with rfl | rfl <;> grind
theorem ax3 {A B s : Rat} (_hp : 0 < s * B) (hu : (-A) / (s * B) * (s * B) = - A) : A + s * B * ((-A) / (s * B)) ≤ 0 := by grind

theorem ax4 {q s h : Rat} (h1 : h ≤ q * q) (hs : s = 1 ∨ s = -1) : h ≤ (- (s * q)) * (- (s * q)) := by
  rcases hs with rfl | rfl <;> grind
theorem ax5 {A B w0 s X v : Rat} (h : A + B * w0 + X ≤ v) (h2 : A + B * w0 + X ≠ v) (hv : 0 + 0 * w0 + X = v) (hs : s = 1 ∨ s = -1) : A + s * B * (s * w0) < 0 := by
  rcases hs with rfl | rfl <;> grind
theorem ax6 (q : Rat) {s : Rat} (hs : s = 1 ∨ s = -1) : (- (s * q)) * (- (s * q)) = q * q := by
  rcases hs with rfl | rfl <;> grind

/-- the side on which to go on: s = 1 or -1, from w0 on -/
theorem go_on {c : Nat → Dc} {n a b : Nat} {w0 s v : Rat} (ha : a < n) (hb : b < n) (hab : ¬ ((c a).x = (c b).x ∧ (c a).y = (c b).y)) (hs : s = 1 ∨ s = -1)
    (hw : 0 ≤ s * w0) (hv : v ≤ 0) (hva : f (c a) (fX (c a) (c b) + w0 * (- dY (c a) (c b))) (fY (c a) (c b) + w0 * dX (c a) (c b)) = v)
    (hle : ∀ k, k < n → f (c k) (fX (c a) (c b) + w0 * (- dY (c a) (c b))) (fY (c a) (c b) + w0 * dX (c a) (c b)) ≤ v)
    (hT : ∀ k, k < n → f (c k) (fX (c a) (c b) + w0 * (- dY (c a) (c b))) (fY (c a) (c b) + w0 * dX (c a) (c b)) = v → s * be (c a) (c b) (c k) ≤ 0) :
    Wit c n ∨ ∃ k x y, k < n ∧ v < val (c a) (c b) (c k) ∧ val (c a) (c b) (c k) ≤ 0 ∧ At c n x y (val (c a) (c b) (c k)) := by
  have hF := Fr_pos hab
  have hFn : Fr (c a) (c b) ≠ 0 := by grind
  have hL := f_line (c a) (c b)
  have la := hL (c a)
  have lb := hL (c b)
  rw [al_a hFn, be_a] at la
  rw [al_b hFn, be_b] at lb
  have hss : s * s = 1 := by rcases hs with rfl | rfl <;> grind
  rw [la] at hva
  -- w0^2 ≤ h
  have hwh : w0 * w0 ≤ hh (c a) (c b) := by
    rcases tri (hh (c a) (c b) - w0 * w0) with h | h | h
    · have := mulpos hF (b := w0 * w0 - hh (c a) (c b)) (by grind); grind
    · grind
    · grind
  have h0 : 0 ≤ hh (c a) (c b) := by have := sqnn w0; grind
  have hsw : (s * w0) * (s * w0) = w0 * w0 := by grind
  have hleq : ∀ k, k < n → al (c a) (c b) (c k) + s * be (c a) (c b) (c k) * (s * w0) ≤ 0 := by
    intro k hk
    have := hle k hk
    rw [hL] at this
    exact ax1 this hva hs
  by_cases hall : ∀ k, k < n → 0 < s * be (c a) (c b) (c k) → hh (c a) (c b) ≤ (al (c a) (c b) (c k) / be (c a) (c b) (c k)) * (al (c a) (c b) (c k) / be (c a) (c b) (c k))
  · left
    have hk : ∀ k, k < n → rsg (al (c a) (c b) (c k)) (s * be (c a) (c b) (c k)) (hh (c a) (c b)) ≤ 0 := by
      intro k hk
      by_cases hp : 0 < s * be (c a) (c b) (c k)
      · have h1 := hall k hk hp
        have h2 := hleq k hk
        have h4 := mulnn (a := s * be (c a) (c b) (c k)) (b := s * w0) (by grind) hw
        have hd : (s * be (c a) (c b) (c k)) ≠ 0 := by grind
        have hu : (- al (c a) (c b) (c k)) / (s * be (c a) (c b) (c k)) * (s * be (c a) (c b) (c k)) = - al (c a) (c b) (c k) := Rat.div_mul_cancel hd
        have hu0 : 0 ≤ (- al (c a) (c b) (c k)) / (s * be (c a) (c b) (c k)) := by
          rw [Rat.div_def]; exact mulnn (by grind) (inv_nn hp)
        refine rsg_of_up hp hu0 h0 ?_ (ax3 hp hu)
        have hb0 : be (c a) (c b) (c k) ≠ 0 := by intro h; rw [h] at hp; grind
        rw [ax2 hb0 hs]
        exact ax4 h1 hs
      · exact rsg_of_dn (by grind) hw (by grind) (hleq k hk)
    have hne : a ≠ b := fun e => hab (by rw [e]; exact ⟨rfl, rfl⟩)
    by_cases hz : hh (c a) (c b) = 0
    · refine ⟨a, b, 0, ha, hb, .inl rfl, ?_⟩
      unfold Prv
      rw [if_neg hne]
      refine ⟨hFn, h0, by simp [hz], fun k hk' => ?_⟩
      rw [if_neg (by decide)]
      have := hk k hk'
      unfold Kp
      rw [hz] at this ⊢
      have z : ∀ a b : Rat, rsg a b 0 = sg a := by intro a b; unfold rsg; rw [sg_zero]; simp; intro h; exact h.symm
      rw [z] at this ⊢
      unfold al at this
      rw [hz] at this
      grind
    · rcases hs with rfl | rfl
      · refine ⟨a, b, 1, ha, hb, .inr (.inl rfl), ?_⟩
        unfold Prv
        rw [if_neg hne]
        refine ⟨hFn, h0, by simp [hz], fun k hk' => ?_⟩
        rw [if_neg (by decide)]
        have := hk k hk'
        unfold al be at this
        unfold Kp
        have e1 : (1 : Rat) * (2 * ((fX (c a) (c b) - (c k).x) * (- dY (c a) (c b)) + (fY (c a) (c b) - (c k).y) * dX (c a) (c b))) = 2 * ((fX (c a) (c b) - (c k).x) * (- dY (c a) (c b)) + (fY (c a) (c b) - (c k).y) * dX (c a) (c b)) := by grind
        have e2 : (- dY (c a) (c b)) * (- dY (c a) (c b)) + dX (c a) (c b) * dX (c a) (c b) = dX (c a) (c b) * dX (c a) (c b) + dY (c a) (c b) * dY (c a) (c b) := by grind
        rw [e1] at this
        rw [e2]
        exact this
      · refine ⟨a, b, -1, ha, hb, .inr (.inr rfl), ?_⟩
        unfold Prv
        rw [if_neg hne]
        refine ⟨hFn, h0, by simp [hz], fun k hk' => ?_⟩
        rw [if_pos (by decide)]
        have := hk k hk'
        unfold al be at this
        unfold Kp
        have e1 : (-1 : Rat) * (2 * ((fX (c a) (c b) - (c k).x) * (- dY (c a) (c b)) + (fY (c a) (c b) - (c k).y) * dX (c a) (c b))) = 2 * ((fX (c a) (c b) - (c k).x) * dY (c a) (c b) + (fY (c a) (c b) - (c k).y) * (- dX (c a) (c b))) := by grind
        have e2 : dY (c a) (c b) * dY (c a) (c b) + (- dX (c a) (c b)) * (- dX (c a) (c b)) = dX (c a) (c b) * dX (c a) (c b) + dY (c a) (c b) * dY (c a) (c b) := by grind
        rw [e1] at this
        rw [e2]
        exact this
  · right
    have hex : ∃ k, k < n ∧ 0 < s * be (c a) (c b) (c k) ∧ (al (c a) (c b) (c k) / be (c a) (c b) (c k)) * (al (c a) (c b) (c k) / be (c a) (c b) (c k)) < hh (c a) (c b) := by
      refine Classical.byContradiction fun hn => hall fun k hk hp => ?_
      refine Classical.byContradiction fun h2 => hn ⟨k, hk, hp, by grind⟩
    obtain ⟨k0, hk0, hp0, hlt0⟩ := hex
    obtain ⟨k, hk, hp, hmin⟩ := exMin n (fun k => 0 < s * be (c a) (c b) (c k)) (fun k => (- al (c a) (c b) (c k)) / (s * be (c a) (c b) (c k))) ⟨k0, hk0, hp0⟩
    have hform : ∀ l, l < n → 0 < s * be (c a) (c b) (c l) → (- al (c a) (c b) (c l)) / (s * be (c a) (c b) (c l)) * (s * be (c a) (c b) (c l)) = - al (c a) (c b) (c l) ∧
        s * w0 < (- al (c a) (c b) (c l)) / (s * be (c a) (c b) (c l)) ∧
        ((- al (c a) (c b) (c l)) / (s * be (c a) (c b) (c l))) * ((- al (c a) (c b) (c l)) / (s * be (c a) (c b) (c l))) = (al (c a) (c b) (c l) / be (c a) (c b) (c l)) * (al (c a) (c b) (c l) / be (c a) (c b) (c l)) := by
      intro l hl hpl
      have hd : (s * be (c a) (c b) (c l)) ≠ 0 := by grind
      have hu : (- al (c a) (c b) (c l)) / (s * be (c a) (c b) (c l)) * (s * be (c a) (c b) (c l)) = - al (c a) (c b) (c l) := Rat.div_mul_cancel hd
      refine ⟨hu, ?_, ?_⟩
      · have h1 := hle l hl
        have h2 : f (c l) (fX (c a) (c b) + w0 * (- dY (c a) (c b))) (fY (c a) (c b) + w0 * dX (c a) (c b)) ≠ v := fun e => by have := hT l hl e; grind
        rw [hL] at h1 h2
        have h3 : al (c a) (c b) (c l) + s * be (c a) (c b) (c l) * (s * w0) < 0 := ax5 h1 h2 hva hs
        refine Classical.byContradiction fun hn => ?_
        have := Rat.mul_le_mul_of_nonneg_left (a := (- al (c a) (c b) (c l)) / (s * be (c a) (c b) (c l))) (b := s * w0) (c := s * be (c a) (c b) (c l)) (by grind) (by grind)
        grind
      · have hb0 : be (c a) (c b) (c l) ≠ 0 := by intro h; rw [h] at hpl; grind
        rw [ax2 hb0 hs]
        exact ax6 _ hs
    obtain ⟨hu, hgt, hsq⟩ := hform k hk hp
    have hlow := hmin k0 hk0 hp0
    obtain ⟨_, _, hsq0⟩ := hform k0 hk0 hp0
    have hless : ((- al (c a) (c b) (c k)) / (s * be (c a) (c b) (c k))) * ((- al (c a) (c b) (c k)) / (s * be (c a) (c b) (c k))) < hh (c a) (c b) := by
      have := le_sq (a := (- al (c a) (c b) (c k)) / (s * be (c a) (c b) (c k))) (by grind) hlow
      grind
    have hval : val (c a) (c b) (c k) = Fr (c a) (c b) * (((- al (c a) (c b) (c k)) / (s * be (c a) (c b) (c k))) * ((- al (c a) (c b) (c k)) / (s * be (c a) (c b) (c k))) - hh (c a) (c b)) := by
      unfold val; rw [hsq]
    generalize hq : (- al (c a) (c b) (c k)) / (s * be (c a) (c b) (c k)) = u at *
    have hneg : val (c a) (c b) (c k) ≤ 0 := by
      have := mulpos hF (b := hh (c a) (c b) - u * u) (by grind)
      grind
    have hgtv : v < val (c a) (c b) (c k) := by
      have h1 := mulpos (a := u - s * w0) (b := u + s * w0) (by grind) (by grind)
      have := mulpos hF (b := u * u - w0 * w0) (by grind)
      grind
    have hsu : (s * u) * (s * u) = u * u := by grind
    refine ⟨k, fX (c a) (c b) + (s * u) * (- dY (c a) (c b)), fY (c a) (c b) + (s * u) * dX (c a) (c b), hk, hgtv, hneg, ⟨a, b, ha, hb, hab, ?_, ?_⟩, fun l hl => ?_⟩
    · rw [la, hsu, hval]; grind
    · rw [lb, hsu, hval]; grind
    · rw [hL, hsu, hval]
      have h1 : al (c a) (c b) (c l) + s * be (c a) (c b) (c l) * u ≤ 0 := by
        by_cases hpl : 0 < s * be (c a) (c b) (c l)
        · have h2 := hmin l hl hpl
          obtain ⟨hul, _, _⟩ := hform l hl hpl
          have := Rat.mul_le_mul_of_nonneg_left (c := s * be (c a) (c b) (c l)) h2 (by grind)
          grind
        · have h2 := hleq l hl
          have := Rat.mul_le_mul_of_nonneg_left (a := s * w0) (b := u) (c := - (s * be (c a) (c b) (c l))) (by grind) (by grind)
          grind
      grind

theorem bx0 {A1 A2 x y : Rat} (h : (A1 + x) * (A1 + x) + (A2 + y) * (A2 + y) ≤ A1 * A1 + A2 * A2) (hne : ¬ (x = 0 ∧ y = 0)) : 0 < - (A1 * x + A2 * y) := by
  have : 0 < x * x + y * y := by
    by_cases e : x = 0
    · have := sqpos (a := y) (by grind); have := sqnn x; grind
    · have := sqpos e; have := sqnn y; grind
  grind

/-- cross products: |A|^2 (zb x zl) = Xl Yb - Xb Yl -/
theorem bx1 (A1 A2 x y u v : Rat) : (A1 * A1 + A2 * A2) * (x * v - y * u) = (- (A1 * u + A2 * v)) * (A1 * y - A2 * x) - (- (A1 * x + A2 * y)) * (A1 * v - A2 * u) := by grind

/-- where some line goes on upwards -/
theorem bx2 {X Xb Y Yb : Rat} (hX : 0 < X) (hXb : 0 < Xb) (h : Y * Y / (X * X) ≤ Yb * Yb / (Xb * Xb)) :
    (0 ≤ Yb → 0 ≤ X * Yb - Xb * Y) ∧ (Yb < 0 → X * Yb - Xb * Y ≤ 0) := by
  have h1 : Y * Y / (X * X) * (X * X) = Y * Y := Rat.div_mul_cancel (by have := mulpos hX hX; grind)
  have h2 : Yb * Yb / (Xb * Xb) * (Xb * Xb) = Yb * Yb := Rat.div_mul_cancel (by have := mulpos hXb hXb; grind)
  have h3 : (Xb * Y) * (Xb * Y) ≤ (X * Yb) * (X * Yb) := by
    have := Rat.mul_le_mul_of_nonneg_left h (Rat.le_of_lt (mulpos (mulpos hX hX) (mulpos hXb hXb)))
    generalize Y * Y / (X * X) = p at *
    generalize Yb * Yb / (Xb * Xb) = q at *
    have e1 : (Xb * Y) * (Xb * Y) = X * X * (Xb * Xb) * p := by grind
    have e2 : (X * Yb) * (X * Yb) = X * X * (Xb * Xb) * q := by grind
    rw [e1, e2]; exact this
  constructor
  · intro hy
    by_cases hl : 0 ≤ Y
    · have := sq_le (a := Xb * Y) (b := X * Yb) (mulnn (by grind) hl) (mulnn (by grind) hy) h3
      grind
    · have := mulnn (a := X) (b := Yb) (by grind) hy
      have := mulpos (a := Xb) (b := - Y) hXb (by grind)
      grind
  · intro hy
    by_cases hl : Y ≤ 0
    · have := sq_le (a := - (Xb * Y)) (b := - (X * Yb)) (by have := mulnn (a := Xb) (b := - Y) (by grind) (by grind); grind)
        (by have := mulnn (a := X) (b := - Yb) (by grind) (by grind); grind) (by grind)
      grind
    · have := mulpos hXb (b := Y) (by grind)
      have := mulpos hX (b := - Yb) (by grind)
      grind

/-- the place on the line of a and b -/
theorem on_line {a b : Dc} {x y : Rat} (hF : Fr a b ≠ 0) (h : f a x y = f b x y) :
    let w0 := (- (x - a.x) * dY a b + (y - a.y) * dX a b) / Fr a b
    x = fX a b + w0 * (- dY a b) ∧ y = fY a b + w0 * dX a b := by
  intro w0
  have hw : w0 * Fr a b = - (x - a.x) * dY a b + (y - a.y) * dX a b := Rat.div_mul_cancel hF
  have ht := tt_F hF
  -- (x - a.x) dX + (y - a.y) dY = t F
  have hd : ((x - a.x) * dX a b + (y - a.y) * dY a b - tt a b * Fr a b) * 2 = 0 := by
    have e : f a x y - f b x y = 0 := by grind
    unfold f at e
    have e3 : b.x = a.x + dX a b := by unfold dX; grind
    have e4 : b.y = a.y + dY a b := by unfold dY; grind
    rw [e3, e4] at e
    unfold Fr at *
    grind
  have hd : (x - a.x) * dX a b + (y - a.y) * dY a b = tt a b * Fr a b := by grind
  have hFd : Fr a b = dX a b * dX a b + dY a b * dY a b := rfl
  constructor
  · have : (x - (fX a b + w0 * (- dY a b))) * Fr a b = 0 := by
      unfold fX
      generalize dX a b = p at *
      generalize dY a b = q at *
      generalize tt a b = t at *
      generalize Fr a b = F at *
      have : (x - (a.x + t * p + w0 * (-q))) * F = (x - a.x) * F - p * (t * F) + q * (w0 * F) := by grind
      rw [this, hw, ← hd, hFd]
      grind
    rcases Rat.mul_eq_zero.1 this with h | h <;> grind
  · have : (y - (fY a b + w0 * dX a b)) * Fr a b = 0 := by
      unfold fY
      generalize dX a b = p at *
      generalize dY a b = q at *
      generalize tt a b = t at *
      generalize Fr a b = F at *
      have : (y - (a.y + t * q + w0 * p)) * F = (y - a.y) * F - q * (t * F) - p * (w0 * F) := by grind
      rw [this, hw, ← hd, hFd]
      grind
    rcases Rat.mul_eq_zero.1 this with h | h <;> grind

theorem step_up {c : Nat → Dc} {n : Nat} {x y v : Rat} (hv : v ≤ 0) (h : At c n x y v) :
    Wit c n ∨ ∃ a b k x' y', a < n ∧ b < n ∧ k < n ∧ v < val (c a) (c b) (c k) ∧ val (c a) (c b) (c k) ≤ 0 ∧ At c n x' y' (val (c a) (c b) (c k)) := by
  obtain ⟨⟨i, j, hi, hj, hij, fi, fj⟩, hle⟩ := h
  obtain ⟨a, ha, fa, hmax⟩ := exMax n (fun k => f (c k) x y = v) (fun k => (c k).s) ⟨i, hi, fi⟩
  -- |A + z|^2 ≤ |A|^2
  have hz : ∀ l, l < n → f (c l) x y = v → ¬ ((c a).x = (c l).x ∧ (c a).y = (c l).y) →
      0 < - (((c a).x - x) * dX (c a) (c l) + ((c a).y - y) * dY (c a) (c l)) := by
    intro l hl fl hne
    refine bx0 ?_ (by unfold dX dY; grind)
    have := hmax l hl fl
    have e1 : (c a).x - x + dX (c a) (c l) = (c l).x - x := by unfold dX; grind
    have e2 : (c a).y - y + dY (c a) (c l) = (c l).y - y := by unfold dY; grind
    rw [e1, e2]
    unfold f at fl fa
    grind
  have hex : ∃ l, l < n ∧ (f (c l) x y = v ∧ ¬ ((c a).x = (c l).x ∧ (c a).y = (c l).y)) := by
    by_cases e : (c a).x = (c i).x ∧ (c a).y = (c i).y
    · exact ⟨j, hj, fj, fun e' => hij ⟨e.1.symm.trans e'.1, e.2.symm.trans e'.2⟩⟩
    · exact ⟨i, hi, fi, e⟩
  obtain ⟨b, hb, ⟨fb, hab⟩, hbm⟩ := exMax n (fun l => f (c l) x y = v ∧ ¬ ((c a).x = (c l).x ∧ (c a).y = (c l).y))
    (fun l => ((((c a).x - x) * dY (c a) (c l) - ((c a).y - y) * dX (c a) (c l)) * (((c a).x - x) * dY (c a) (c l) - ((c a).y - y) * dX (c a) (c l))) /
      ((- (((c a).x - x) * dX (c a) (c l) + ((c a).y - y) * dY (c a) (c l))) * (- (((c a).x - x) * dX (c a) (c l) + ((c a).y - y) * dY (c a) (c l))))) hex
  have hF := Fr_pos hab
  have hFn : Fr (c a) (c b) ≠ 0 := by grind
  obtain ⟨ex, ey⟩ := on_line hFn (fa.trans fb.symm)
  have hw : (- (x - (c a).x) * dY (c a) (c b) + (y - (c a).y) * dX (c a) (c b)) / Fr (c a) (c b) * Fr (c a) (c b) = - (x - (c a).x) * dY (c a) (c b) + (y - (c a).y) * dX (c a) (c b) := Rat.div_mul_cancel hFn
  generalize (- (x - (c a).x) * dY (c a) (c b) + (y - (c a).y) * dX (c a) (c b)) / Fr (c a) (c b) = w0 at *
  have hXb := hz b hb fb hab
  -- all tied ones lie on one side
  have key : ∀ l, l < n → f (c l) x y = v →
      (0 ≤ ((c a).x - x) * dY (c a) (c b) - ((c a).y - y) * dX (c a) (c b) → be (c a) (c b) (c l) ≤ 0) ∧
      (((c a).x - x) * dY (c a) (c b) - ((c a).y - y) * dX (c a) (c b) < 0 → 0 ≤ be (c a) (c b) (c l)) := by
    intro l hl fl
    have hbe : be (c a) (c b) (c l) = - 2 * (dX (c a) (c b) * dY (c a) (c l) - dY (c a) (c b) * dX (c a) (c l)) := by
      unfold be fX fY
      have e1 : (c l).x = (c a).x + dX (c a) (c l) := by unfold dX; grind
      have e2 : (c l).y = (c a).y + dY (c a) (c l) := by unfold dY; grind
      rw [e1, e2]; grind
    by_cases e : (c a).x = (c l).x ∧ (c a).y = (c l).y
    · have e1 : dX (c a) (c l) = 0 := by unfold dX; grind
      have e2 : dY (c a) (c l) = 0 := by unfold dY; grind
      rw [hbe, e1, e2]
      constructor <;> intro _ <;> grind
    · have hXl := hz l hl fl e
      have hm := hbm l hl ⟨fl, e⟩
      obtain ⟨k1, k2⟩ := bx2 hXl hXb hm
      have hb1 := bx1 ((c a).x - x) ((c a).y - y) (dX (c a) (c b)) (dY (c a) (c b)) (dX (c a) (c l)) (dY (c a) (c l))
      have hA : 0 < ((c a).x - x) * ((c a).x - x) + ((c a).y - y) * ((c a).y - y) := by
        by_cases e1 : (c a).x - x = 0
        · by_cases e2 : (c a).y - y = 0
          · rw [e1, e2] at hXl; grind
          · have := sqpos e2; have := sqnn ((c a).x - x); grind
        · have := sqpos e1; have := sqnn ((c a).y - y); grind
      rw [hbe]
      generalize ((c a).x - x) * ((c a).x - x) + ((c a).y - y) * ((c a).y - y) = AA at *
      generalize dX (c a) (c b) * dY (c a) (c l) - dY (c a) (c b) * dX (c a) (c l) = cr at *
      constructor
      · intro hy
        have := k1 hy
        rcases tri cr with h | h | h
        · have := mulpos hA (b := -cr) (by grind); grind
        · grind
        · grind
      · intro hy
        have := k2 hy
        rcases tri cr with h | h | h
        · grind
        · grind
        · have := mulpos hA h; grind
  have hdown : w0 * Fr (c a) (c b) = ((c a).x - x) * dY (c a) (c b) - ((c a).y - y) * dX (c a) (c b) := by rw [hw]; grind
  obtain ⟨s, hs, hsw, hsl⟩ : ∃ s : Rat, (s = 1 ∨ s = -1) ∧ 0 ≤ s * w0 ∧ ∀ l, l < n → f (c l) x y = v → s * be (c a) (c b) (c l) ≤ 0 := by
    by_cases hy : 0 ≤ ((c a).x - x) * dY (c a) (c b) - ((c a).y - y) * dX (c a) (c b)
    · refine ⟨1, .inl rfl, ?_, fun l hl fl => by have := (key l hl fl).1 hy; grind⟩
      rcases tri w0 with h | h | h
      · have := mulpos (a := -w0) (by grind) hF; grind
      · grind
      · grind
    · refine ⟨-1, .inr rfl, ?_, fun l hl fl => by have := (key l hl fl).2 (by grind); grind⟩
      rcases tri w0 with h | h | h
      · grind
      · grind
      · have := mulpos h hF; grind
  rcases go_on (c := c) (n := n) (w0 := w0) (s := s) (v := v) ha hb hab hs hsw hv (by rw [← ex, ← ey]; exact fa) (by rw [← ex, ← ey]; exact hle) (by rw [← ex, ← ey]; exact hsl) with h | ⟨k, x', y', hk, h1, h2, h3⟩
  · exact .inl h
  · exact .inr ⟨a, b, k, x', y', ha, hb, hk, h1, h2, h3⟩

/-- how many of the heights are above v -/
def cnt (l : List Rat) (v : Rat) : Nat := (l.filter (fun u => decide (v < u))).length
theorem cnt_lt {l : List Rat} {v u : Rat} (hu : u ∈ l) (h : v < u) : cnt l u < cnt l v := by
  unfold cnt
  induction l with
  | nil => cases hu
  | cons a t ih =>
    have hmono : (t.filter (fun z => decide (u < z))).length ≤ (t.filter (fun z => decide (v < z))).length := by
      clear ih hu
      induction t with
      | nil => simp
      | cons a t ih =>
        simp only [List.filter_cons]
        by_cases h1 : u < a
        · have h2 : v < a := by grind
          simp [h1, h2]; exact ih
        · by_cases h2 : v < a
          · simp [h1, h2]; omega
          · simp [h1, h2]; exact ih
    simp only [List.filter_cons]
    rcases List.mem_cons.1 hu with rfl | hu
    · have h1 : ¬ u < u := by grind
      simp [h1, h]; omega
    · have := ih hu
      by_cases h1 : u < a
      · have h2 : v < a := by grind
        simp [h1, h2]; omega
      · by_cases h2 : v < a
        · simp [h1, h2]; omega
        · simp [h1, h2]; omega

theorem climb {c : Nat → Dc} {n : Nat} (L : List Rat) (hL : ∀ a b k, a < n → b < n → k < n → val (c a) (c b) (c k) ∈ L) (m : Nat) :
    ∀ {x y v : Rat}, cnt L v ≤ m → v ≤ 0 → At c n x y v → Wit c n := by
  induction m with
  | zero =>
    intro x y v hm hv h
    rcases step_up hv h with h | ⟨a, b, k, x', y', ha, hb, hk, h1, h2, h3⟩
    · exact h
    · have := cnt_lt (hL a b k ha hb hk) h1; omega
  | succ m ih =>
    intro x y v hm hv h
    rcases step_up hv h with h | ⟨a, b, k, x', y', ha, hb, hk, h1, h2, h3⟩
    · exact h
    · have := cnt_lt (hL a b k ha hb hk) h1
      exact ih (by omega) h2 h3

theorem vals (c : Nat → Dc) (n : Nat) : ∃ L : List Rat, ∀ a b k, a < n → b < n → k < n → val (c a) (c b) (c k) ∈ L := by
  refine ⟨(List.range n).flatMap fun a => (List.range n).flatMap fun b => (List.range n).map fun k => val (c a) (c b) (c k), fun a b k ha hb hk => ?_⟩
  simp only [List.mem_flatMap, List.mem_map, List.mem_range]
  exact ⟨a, ha, b, hb, k, hk, rfl⟩

theorem cx1 {t A E : Rat} (h : t * (A + E) = A) : - (A * (1 - t)) + E * t = 0 := by grind

/-- (W) discs with a rational common place have a witness -/
theorem witness_of_point {c : Nat → Dc} {n : Nat} (hn : 0 < n) (hs : ∀ k, k < n → 0 ≤ (c k).s) {x y : Rat} (h : ∀ k, k < n → f (c k) x y ≤ 0) : Wit c n := by
  obtain ⟨i, hi, _, hmax⟩ := exMax n (fun _ => True) (fun k => f (c k) x y) ⟨0, hn, trivial⟩
  have hmax : ∀ k, k < n → f (c k) x y ≤ f (c i) x y := fun k hk => hmax k hk trivial
  have fii : f (c i) (c i).x (c i).y = - (c i).s := by unfold f; grind
  by_cases hall : ∀ k, k < n → f (c k) (c i).x (c i).y ≤ - (c i).s
  · refine ⟨i, i, 0, hi, hi, .inl rfl, ?_⟩
    unfold Prv
    rw [if_pos rfl]
    refine ⟨rfl, fun k hk => ?_⟩
    have := hall k hk
    have := hs i hi
    unfold Kp
    have e : (2 * (((c i).x - (c k).x) * 0 + ((c i).y - (c k).y) * 0) : Rat) = 0 := by grind
    rw [e, sg_zero_r]
    refine le_sg ?_
    unfold f at *
    grind
  · have hex : ∃ k, k < n ∧ 0 < f (c k) (c i).x (c i).y + (c i).s := by
      refine Classical.byContradiction fun hn => hall fun k hk => ?_
      refine Classical.byContradiction fun h2 => hn ⟨k, hk, by grind⟩
    -- the moment at which k takes over
    obtain ⟨k, hk, hp, hmin⟩ := exMin n (fun k => 0 < f (c k) (c i).x (c i).y + (c i).s)
      (fun k => (f (c i) x y - f (c k) x y) / ((f (c i) x y - f (c k) x y) + (f (c k) (c i).x (c i).y + (c i).s))) hex
    have hform : ∀ l, l < n → 0 < f (c l) (c i).x (c i).y + (c i).s →
        0 ≤ (f (c i) x y - f (c l) x y) / ((f (c i) x y - f (c l) x y) + (f (c l) (c i).x (c i).y + (c i).s)) ∧
        (f (c i) x y - f (c l) x y) / ((f (c i) x y - f (c l) x y) + (f (c l) (c i).x (c i).y + (c i).s)) < 1 ∧
        (f (c i) x y - f (c l) x y) / ((f (c i) x y - f (c l) x y) + (f (c l) (c i).x (c i).y + (c i).s)) * ((f (c i) x y - f (c l) x y) + (f (c l) (c i).x (c i).y + (c i).s)) = f (c i) x y - f (c l) x y := by
      intro l hl hpl
      have hA : 0 ≤ f (c i) x y - f (c l) x y := by have := hmax l hl; grind
      generalize f (c i) x y - f (c l) x y = A at *
      generalize f (c l) (c i).x (c i).y + (c i).s = E at *
      have hd : A / (A + E) * (A + E) = A := Rat.div_mul_cancel (by grind)
      refine ⟨by rw [Rat.div_def]; exact mulnn hA (inv_nn (by grind)), ?_, hd⟩
      refine Classical.byContradiction fun hn => ?_
      have := mulnn (a := A / (A + E) - 1) (b := A + E) (by grind) (by grind)
      grind
    obtain ⟨ht0, ht1, ht⟩ := hform k hk hp
    generalize htt : (f (c i) x y - f (c k) x y) / ((f (c i) x y - f (c k) x y) + (f (c k) (c i).x (c i).y + (c i).s)) = t at *
    have hline : ∀ l, f (c l) (x + t * ((c i).x - x)) (y + t * ((c i).y - y)) - f (c i) (x + t * ((c i).x - x)) (y + t * ((c i).y - y)) =
        - ((f (c i) x y - f (c l) x y) * (1 - t)) + (f (c l) (c i).x (c i).y + (c i).s) * t := by
      intro l; unfold f; grind
    have hik : f (c k) (x + t * ((c i).x - x)) (y + t * ((c i).y - y)) = f (c i) (x + t * ((c i).x - x)) (y + t * ((c i).y - y)) := by
      have := hline k
      rw [cx1 ht] at this
      grind
    have hlow : f (c i) (x + t * ((c i).x - x)) (y + t * ((c i).y - y)) ≤ f (c i) x y := by
      have e : f (c i) (x + t * ((c i).x - x)) (y + t * ((c i).y - y)) = f (c i) x y - t * (2 - t) * ((x - (c i).x) * (x - (c i).x) + (y - (c i).y) * (y - (c i).y)) := by unfold f; grind
      have := mulnn (mulnn ht0 (b := 2 - t) (by grind)) (b := (x - (c i).x) * (x - (c i).x) + (y - (c i).y) * (y - (c i).y)) (by have := sqnn (x - (c i).x); have := sqnn (y - (c i).y); grind)
      grind
    have hv : f (c i) (x + t * ((c i).x - x)) (y + t * ((c i).y - y)) ≤ 0 := by have := h i hi; grind
    have hne : ¬ ((c i).x = (c k).x ∧ (c i).y = (c k).y) := by
      rintro ⟨e1, e2⟩
      have := hmax k hk
      unfold f at this hp
      rw [← e1, ← e2] at this hp
      clear hline hform hmin hmax hall hex ht hik hlow hv
      grind
    have hat : At c n (x + t * ((c i).x - x)) (y + t * ((c i).y - y)) (f (c i) (x + t * ((c i).x - x)) (y + t * ((c i).y - y))) := by
      refine ⟨⟨i, k, hi, hk, hne, rfl, hik⟩, fun l hl => ?_⟩
      have h1 := hline l
      have h2 : 0 ≤ f (c i) x y - f (c l) x y := by have := hmax l hl; grind
      by_cases hpl : 0 < f (c l) (c i).x (c i).y + (c i).s
      · obtain ⟨_, _, hl3⟩ := hform l hl hpl
        have hml := hmin l hl hpl
        have h4 : - ((f (c i) x y - f (c l) x y) * (1 - t)) + (f (c l) (c i).x (c i).y + (c i).s) * t ≤ 0 := by
          generalize f (c i) x y - f (c l) x y = A at *
          generalize f (c l) (c i).x (c i).y + (c i).s = E at *
          have := Rat.mul_le_mul_of_nonneg_left hml (c := A + E) (by grind)
          grind
        grind
      · have h4 := mulnn h2 (b := 1 - t) (by grind)
        have h5 := mulnn (a := - (f (c l) (c i).x (c i).y + (c i).s)) (b := t) (by grind) ht0
        grind
    obtain ⟨L, hL⟩ := vals c n
    exact climb L hL (cnt L _) (Nat.le_refl _) hv hat
end Geo

namespace Geo

instance (d : Dc) (fx fy ax ay h : Rat) : Decidable (Kp d fx fy ax ay h) := by unfold Kp; exact inferInstance
instance (c : Nat → Dc) (n i j : Nat) (side : Int) : Decidable (Prv c n i j side) := by unfold Prv; exact inferInstance

/-- the witnesses in their order -/
def wl (n : Nat) : List (Nat × Nat × Int) :=
  (List.range n).map (fun i => (i, i, 0)) ++ (List.range n).flatMap fun i => (List.range' (i + 1) (n - (i + 1))).flatMap fun j => [(i, j, 0), (i, j, 1), (i, j, -1)]

theorem mem_wl {n i j : Nat} {s : Int} : (i, j, s) ∈ wl n ↔ (i = j ∧ s = 0 ∧ i < n) ∨ (i < j ∧ j < n ∧ (s = 0 ∨ s = 1 ∨ s = -1)) := by
  unfold wl
  simp only [List.mem_append, List.mem_map, List.mem_range, List.mem_flatMap, List.mem_range'_1, List.mem_cons, List.not_mem_nil, or_false, Prod.mk.injEq]
  constructor
  · rintro (⟨a, ha, rfl, rfl, rfl⟩ | ⟨a, ha, b, hb, h⟩)
    · exact .inl ⟨rfl, rfl, ha⟩
    · rcases h with ⟨rfl, rfl, rfl⟩ | ⟨rfl, rfl, rfl⟩ | ⟨rfl, rfl, rfl⟩
      · exact .inr ⟨by omega, by omega, .inl rfl⟩
      · exact .inr ⟨by omega, by omega, .inr (.inl rfl)⟩
      · exact .inr ⟨by omega, by omega, .inr (.inr rfl)⟩
  · rintro (⟨rfl, rfl, h⟩ | ⟨h1, h2, h⟩)
    · exact .inl ⟨i, h, rfl, rfl, rfl⟩
    · refine .inr ⟨i, by omega, j, by omega, ?_⟩
      rcases h with rfl | rfl | rfl
      · exact .inl ⟨rfl, rfl, rfl⟩
      · exact .inr (.inl ⟨rfl, rfl, rfl⟩)
      · exact .inr (.inr ⟨rfl, rfl, rfl⟩)

/-- the first witness that is in all discs -/
def fw (c : Nat → Dc) (n : Nat) : Option (Nat × Nat × Int) := (wl n).find? fun w => decide (Prv c n w.1 w.2.1 w.2.2)

def Cm (c : Nat → Dc) (n : Nat) : Prop := ∃ x y, ∀ k, k < n → f (c k) x y ≤ 0

theorem cm_of_fw {c : Nat → Dc} {n : Nat} {w : Nat × Nat × Int} (h : fw c n = some w) : Cm c n := by
  have := List.find?_some h
  simp only [decide_eq_true_eq] at this
  exact point_of_witness this
theorem fw_of_cm {c : Nat → Dc} {n : Nat} (hn : 0 < n) (hs : ∀ k, k < n → 0 ≤ (c k).s) (h : Cm c n) : ∃ w, fw c n = some w := by
  obtain ⟨x, y, h⟩ := h
  obtain ⟨i, j, side, hi, hj, hs, hw⟩ := witness_of_point hn hs h
  have hex : ∃ w ∈ wl n, Prv c n w.1 w.2.1 w.2.2 := by
    by_cases e : i = j
    · subst e
      have h0 : side = 0 := by unfold Prv at hw; rw [if_pos rfl] at hw; exact hw.1
      subst h0
      exact ⟨(i, i, 0), mem_wl.2 (.inl ⟨rfl, rfl, hi⟩), hw⟩
    · by_cases hlt : i < j
      · exact ⟨(i, j, side), mem_wl.2 (.inr ⟨hlt, hj, hs⟩), hw⟩
      · exact ⟨(j, i, -side), mem_wl.2 (.inr ⟨by omega, hi, by omega⟩), prv_swap e hs hw⟩
  obtain ⟨w, hw, hp⟩ := hex
  cases hf : fw c n with
  | some v => exact ⟨v, rfl⟩
  | none =>
    have := List.find?_eq_none.1 hf w hw
    simp only [decide_eq_true_eq] at this
    exact (this hp).elim
theorem fw_iff {c : Nat → Dc} {n : Nat} (hn : 0 < n) (hs : ∀ k, k < n → 0 ≤ (c k).s) : (∃ w, fw c n = some w) ↔ Cm c n :=
  ⟨fun ⟨_, h⟩ => cm_of_fw h, fw_of_cm hn hs⟩

/-- Helly for discs -/
theorem cm_of_triples {c : Nat → Dc} {n : Nat} (h : ∀ i j k, i < n → j < n → k < n → ∃ x y, f (c i) x y ≤ 0 ∧ f (c j) x y ≤ 0 ∧ f (c k) x y ≤ 0) : Cm c n := by
  obtain ⟨x, y, hxy⟩ := helly ((List.range n).map fun i => fun x y => f (c i) x y ≤ 0) (by
      intro C hC
      obtain ⟨i, _, rfl⟩ := List.mem_map.1 hC
      exact cvx_disc _) (by
      intro A hA B hB C hC
      obtain ⟨i, hi, rfl⟩ := List.mem_map.1 hA
      obtain ⟨j, hj, rfl⟩ := List.mem_map.1 hB
      obtain ⟨k, hk, rfl⟩ := List.mem_map.1 hC
      exact h i j k (List.mem_range.1 hi) (List.mem_range.1 hj) (List.mem_range.1 hk))
  exact ⟨x, y, fun k hk => hxy _ (List.mem_map.2 ⟨k, List.mem_range.2 hk, rfl⟩)⟩

example : fw (fun i => if i = 0 then ⟨-3, 0, 4⟩ else ⟨-3, 0, 4⟩) 2 = some (0, 0, 0) := by decide +kernel
example : fw (fun i => if i = 0 then ⟨3, 0, 4⟩ else ⟨-3, 0, 4⟩) 2 = none := by decide +kernel
example : fw (fun i => if i = 0 then ⟨0, 0, 5⟩ else ⟨4, 0, 5⟩) 2 = some (0, 1, 1) := by decide +kernel
end Geo

namespace Geo

abbrev W3 := Nat × Nat × Int
def sd (i j : Nat) : List W3 := [(i, j, 0), (i, j, 1), (i, j, -1)]
def dk (k : Nat) : List W3 := (List.range k).map fun i => (i, i, 0)
def fj (i j : Nat) : List W3 := (List.range' (i + 1) (j - (i + 1))).flatMap fun j => sd i j
def ei (n i : Nat) : List W3 := (List.range i).flatMap fun i => fj i n
theorem wl_eq (n : Nat) : wl n = dk n ++ ei n n := rfl
theorem dk_succ (k : Nat) : dk (k + 1) = dk k ++ [(k, k, 0)] := by unfold dk; rw [List.range_succ, List.map_append]; rfl
theorem ei_succ (n i : Nat) : ei n (i + 1) = ei n i ++ fj i n := by unfold ei; rw [List.range_succ, List.flatMap_append]; simp
theorem fj_start (i : Nat) : fj i (i + 1) = [] := by unfold fj; rw [Nat.sub_self]; rfl
theorem fj_succ {i j : Nat} (h : i < j) : fj i (j + 1) = fj i j ++ sd i j := by
  unfold fj
  rw [show j + 1 - (i + 1) = (j - (i + 1)) + 1 by omega, List.range'_concat, List.flatMap_append]
  simp; congr 1; omega
theorem dk_pre {k n : Nat} (h : k ≤ n) : dk k <+: dk n := by
  induction n with
  | zero => have : k = 0 := by omega
            subst this; exact List.prefix_refl _
  | succ n ih =>
    by_cases e : k = n + 1
    · subst e; exact List.prefix_refl _
    · rw [dk_succ]; exact (ih (by omega)).trans (List.prefix_append _ _)
theorem ei_pre {n i m : Nat} (h : i ≤ m) : ei n i <+: ei n m := by
  induction m with
  | zero => have : i = 0 := by omega
            subst this; exact List.prefix_refl _
  | succ m ih =>
    by_cases e : i = m + 1
    · subst e; exact List.prefix_refl _
    · rw [ei_succ]; exact (ih (by omega)).trans (List.prefix_append _ _)
theorem fj_pre {i j n : Nat} (h0 : i < j) (h : j ≤ n) : fj i j <+: fj i n := by
  induction n with
  | zero => omega
  | succ n ih =>
    by_cases e : j = n + 1
    · subst e; exact List.prefix_refl _
    · rw [fj_succ (by omega)]; exact (ih (by omega)).trans (List.prefix_append _ _)
theorem app_pre {a b c : List W3} (h : b <+: c) : a ++ b <+: a ++ c := by
  obtain ⟨t, rfl⟩ := h; exact ⟨t, by rw [List.append_assoc]⟩
theorem pre1 {k n : Nat} (h : k ≤ n) : dk k <+: wl n := by rw [wl_eq]; exact (dk_pre h).trans (List.prefix_append _ _)
theorem pre2 {n i j s : Nat} (hi : i < n) (hj : i < j) (hjn : j < n) : dk n ++ (ei n i ++ (fj i j ++ (sd i j).take s)) <+: wl n := by
  rw [wl_eq]
  refine app_pre (List.IsPrefix.trans ?_ (ei_pre (i := i + 1) (by omega)))
  rw [ei_succ]
  refine app_pre (List.IsPrefix.trans ?_ (fj_pre (j := j + 1) (by omega) (by omega)))
  rw [fj_succ hj]
  exact app_pre (List.take_prefix _ _)
theorem find_pre {P : W3 → Bool} {l pre : List W3} {x : W3} (h : pre ++ [x] <+: l) (h1 : ∀ y ∈ pre, P y = false) (h2 : P x = true) : l.find? P = some x := by
  obtain ⟨t, rfl⟩ := h
  rw [List.find?_append, List.find?_append]
  have : pre.find? P = none := List.find?_eq_none.2 fun y hy => by rw [h1 y hy]; decide
  rw [this]
  simp [h2]
theorem find_none {P : W3 → Bool} {l : List W3} (h1 : ∀ y ∈ l, P y = false) : l.find? P = none := List.find?_eq_none.2 fun y hy => by rw [h1 y hy]; decide
end Geo
