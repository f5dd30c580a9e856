import Derived.Test.YtdknneofiefieaaGreatDoorGc
import Derived.Test.YtdknneofiefieaaGreatDoorGb

namespace Sh
open Geo Rt

def zc (l : List Dc) : Nat → Dc := fun k => l.getD k default
/-- discs have a common rational place -/
def CmL (l : List Dc) : Prop := ∃ x y, ∀ d ∈ l, f d x y ≤ 0
def feas (l : List Dc) : Bool := (fw (zc l) l.length).isSome

theorem zc_get {l : List Dc} {k : Nat} (h : k < l.length) : zc l k = l[k] := by
  unfold zc; rw [List.getD_eq_getElem?_getD, List.getElem?_eq_getElem h]; rfl
theorem zc_some {l : List Dc} {k : Nat} {d : Dc} (h : l[k]? = some d) : zc l k = d := by
  unfold zc; rw [List.getD_eq_getElem?_getD, h]; rfl
theorem cml_iff (l : List Dc) : Cm (zc l) l.length ↔ CmL l := by
  unfold Cm CmL
  constructor
  · rintro ⟨x, y, h⟩
    refine ⟨x, y, fun d hd => ?_⟩
    obtain ⟨k, hk, rfl⟩ := List.mem_iff_getElem.1 hd
    have := h k hk
    rwa [zc_get hk] at this
  · rintro ⟨x, y, h⟩
    refine ⟨x, y, fun k hk => ?_⟩
    rw [zc_get hk]
    exact h _ (List.getElem_mem hk)
theorem feas_iff {l : List Dc} (h0 : l ≠ []) (hs : ∀ d ∈ l, 0 ≤ d.s) : feas l = true ↔ CmL l := by
  unfold feas
  rw [Option.isSome_iff_exists, ← cml_iff]
  refine fw_iff (List.length_pos_iff.2 h0) (fun k hk => ?_)
  rw [zc_get hk]
  exact hs _ (List.getElem_mem hk)

theorem CmL.sub {l m : List Dc} (h : CmL l) (hm : ∀ d ∈ m, d ∈ l) : CmL m := by
  obtain ⟨x, y, h⟩ := h
  exact ⟨x, y, fun d hd => h d (hm d hd)⟩
theorem f_center {d : Dc} (h : 0 ≤ d.s) : f d d.x d.y ≤ 0 := by unfold f; grind

/-- the zones of a task -/
def zs (ts : List (Tg × Ci)) (play : Int) : List Dc := ts.map (fun p => zone p.1 p.2) ++ (if play < 0 then [] else [around 0 0 play])

theorem around_s (x y d : Int) : (around x y d).s * 4 = (d : Rat) * (d : Rat) := by
  have := divInt4 (d * d)
  rw [Rat.intCast_mul] at this
  exact this
theorem around_mono {p q : Int} (h0 : 0 ≤ p) (h : p ≤ q) : (around 0 0 p).s ≤ (around 0 0 q).s := by
  have h1 := around_s 0 0 p
  have h2 := around_s 0 0 q
  have h3 : (0 : Rat) ≤ (p : Rat) := Rat.intCast_nonneg.2 h0
  have h4 : (p : Rat) ≤ (q : Rat) := Rat.intCast_le_intCast.2 h
  have := le_sq h3 h4
  grind
theorem f_wide {d e : Dc} (hx : d.x = e.x) (hy : d.y = e.y) (hs : d.s ≤ e.s) {x y : Rat} (h : f d x y ≤ 0) : f e x y ≤ 0 := by
  unfold f at *; rw [← hx, ← hy]; grind
theorem cml_more {ts : List (Tg × Ci)} {p q : Int} (h0 : 0 ≤ p) (h : p ≤ q) (hc : CmL (zs ts p)) : CmL (zs ts q) := by
  obtain ⟨x, y, hx⟩ := hc
  refine ⟨x, y, fun d hd => ?_⟩
  unfold zs at hd hx
  rw [if_neg (by omega)] at hd hx
  rcases List.mem_append.1 hd with h1 | h1
  · exact hx d (List.mem_append_left _ h1)
  · rw [List.mem_singleton] at h1; subst h1
    exact f_wide (d := around 0 0 p) (e := around 0 0 q) rfl rfl (around_mono h0 h) (hx _ (List.mem_append_right _ (by simp)))
theorem cml_free {ts : List (Tg × Ci)} {p : Int} (hc : CmL (zs ts p)) : CmL (zs ts (-1)) := by
  refine hc.sub fun d hd => ?_
  unfold zs at *
  rw [if_pos (by decide), List.append_nil] at hd
  exact List.mem_append_left _ hd

/-- a right plate -/
structure Pok (ts : List (Tg × Ci)) : Prop where
  t : ∀ p ∈ ts, Tok p.1
  c : ∀ p ∈ ts, Cok p.2
  w : ∀ p ∈ ts, Win p.1 p.2
  n : ts ≠ []
theorem Pok.ds {ts : List (Tg × Ci)} (h : Pok ts) {play : Int} (hp : play ≤ 100000) : ∀ d ∈ zs ts play, Ds d := by
  intro d hd
  unfold zs at hd
  rcases List.mem_append.1 hd with h1 | h1
  · obtain ⟨p, hp, rfl⟩ := List.mem_map.1 h1
    exact ds_zone (h.t p hp) (h.c p hp) (h.w p hp)
  · split at h1
    · simp at h1
    · rw [List.mem_singleton] at h1; subst h1
      exact ds_around (by decide) (by decide) (by omega)
theorem zs_ne {ts : List (Tg × Ci)} (h : ts ≠ []) (play : Int) : zs ts play ≠ [] := by
  unfold zs
  intro e
  have := (List.append_eq_nil_iff.1 e).1
  exact h (List.map_eq_nil_iff.1 this)
theorem ds_nn {d : Dc} (h : Ds d) : 0 ≤ d.s := h.2.2.2
theorem Pok.iff {ts : List (Tg × Ci)} (h : Pok ts) {play : Int} (hp : play ≤ 100000) : feas (zs ts play) = true ↔ CmL (zs ts play) :=
  feas_iff (zs_ne h.n play) fun d hd => ds_nn (h.ds hp d hd)
theorem Pok.more {ts : List (Tg × Ci)} (h : Pok ts) {p q : Int} (h0 : 0 ≤ p) (hpq : p ≤ q) (hq : q ≤ 100000) (hf : feas (zs ts p) = true) : feas (zs ts q) = true :=
  (h.iff hq).2 (cml_more h0 hpq ((h.iff (by omega)).1 hf))
theorem Pok.free {ts : List (Tg × Ci)} (h : Pok ts) {p : Int} (hq : p ≤ 100000) (hf : feas (zs ts p) = true) : feas (zs ts (-1)) = true :=
  (h.iff (by decide)).2 (cml_free ((h.iff hq).1 hf))

/-- what Contradiction returns -/
def Ctr (l : List Dc) (o : List Nat) : Prop :=
  (o = [] ∧ (∀ i j, i < j → j < l.length → feas [zc l i, zc l j] = true) ∧ ∀ i j k, i < j → j < k → k < l.length → feas [zc l i, zc l j, zc l k] = true) ∨
  (∃ i j, i < j ∧ j < l.length ∧ o = [i, j] ∧ feas [zc l i, zc l j] = false) ∨
  (∃ i j k, i < j ∧ j < k ∧ k < l.length ∧ o = [i, j, k] ∧ feas [zc l i, zc l j, zc l k] = false)
theorem zc_mem {l : List Dc} {k : Nat} (h : k < l.length) : zc l k ∈ l := by rw [zc_get h]; exact List.getElem_mem h
theorem ctr_iff {l : List Dc} {o : List Nat} (h0 : l ≠ []) (hs : ∀ d ∈ l, 0 ≤ d.s) (h : Ctr l o) : feas l = true ↔ o = [] := by
  have two : ∀ i j, i < l.length → j < l.length → (feas [zc l i, zc l j] = true ↔ CmL [zc l i, zc l j]) := fun i j hi hj =>
    feas_iff (by simp) (by intro d hd; simp at hd; rcases hd with rfl | rfl <;> exact hs _ (zc_mem (by assumption)))
  have three : ∀ i j k, i < l.length → j < l.length → k < l.length → (feas [zc l i, zc l j, zc l k] = true ↔ CmL [zc l i, zc l j, zc l k]) := fun i j k hi hj hk =>
    feas_iff (by simp) (by intro d hd; simp at hd; rcases hd with rfl | rfl | rfl <;> exact hs _ (zc_mem (by assumption)))
  rw [feas_iff h0 hs]
  rcases h with ⟨rfl, h2, h3⟩ | ⟨i, j, hij, hj, rfl, hf⟩ | ⟨i, j, k, hij, hjk, hk, rfl, hf⟩
  · refine ⟨fun _ => rfl, fun _ => ?_⟩
    rw [← cml_iff]
    have p2 : ∀ i j, i < j → j < l.length → ∃ x y, f (zc l i) x y ≤ 0 ∧ f (zc l j) x y ≤ 0 := by
      intro i j hij hj
      obtain ⟨x, y, h⟩ := (two i j (by omega) hj).1 (h2 i j hij hj)
      exact ⟨x, y, h _ (by simp), h _ (by simp)⟩
    have p3 : ∀ i j k, i < j → j < k → k < l.length → ∃ x y, f (zc l i) x y ≤ 0 ∧ f (zc l j) x y ≤ 0 ∧ f (zc l k) x y ≤ 0 := by
      intro i j k hij hjk hk
      obtain ⟨x, y, h⟩ := (three i j k (by omega) (by omega) hk).1 (h3 i j k hij hjk hk)
      exact ⟨x, y, h _ (by simp), h _ (by simp), h _ (by simp)⟩
    have p1 : ∀ i, i < l.length → ∃ x y, f (zc l i) x y ≤ 0 := fun i hi => ⟨_, _, f_center (hs _ (zc_mem hi))⟩
    refine cm_of_triples fun i j k hi hj hk => ?_
    have key : ∀ a b c, a ≤ b → b ≤ c → c < l.length → ∃ x y, f (zc l a) x y ≤ 0 ∧ f (zc l b) x y ≤ 0 ∧ f (zc l c) x y ≤ 0 := by
      intro a b c hab hbc hc
      by_cases e1 : a = b
      · subst e1
        by_cases e2 : a = c
        · subst e2
          obtain ⟨x, y, h⟩ := p1 a hc
          exact ⟨x, y, h, h, h⟩
        · obtain ⟨x, y, h, h'⟩ := p2 a c (by omega) hc
          exact ⟨x, y, h, h, h'⟩
      · by_cases e2 : b = c
        · subst e2
          obtain ⟨x, y, h, h'⟩ := p2 a b (by omega) hc
          exact ⟨x, y, h, h', h'⟩
        · exact p3 a b c (by omega) (by omega) hc
    rcases Nat.le_total i j with h1 | h1 <;> rcases Nat.le_total j k with h2 | h2 <;> rcases Nat.le_total i k with h3 | h3
    · exact key i j k h1 h2 hk
    · exact key i j k h1 h2 hk
    · obtain ⟨x, y, a, b, c⟩ := key i k j h3 h2 hj; exact ⟨x, y, a, c, b⟩
    · obtain ⟨x, y, a, b, c⟩ := key k i j h3 h1 hj; exact ⟨x, y, b, c, a⟩
    · obtain ⟨x, y, a, b, c⟩ := key j i k h1 h3 hk; exact ⟨x, y, b, a, c⟩
    · obtain ⟨x, y, a, b, c⟩ := key j k i h2 h3 hi; exact ⟨x, y, c, a, b⟩
    · obtain ⟨x, y, a, b, c⟩ := key k j i h2 h1 hi; exact ⟨x, y, c, b, a⟩
    · obtain ⟨x, y, a, b, c⟩ := key k j i h2 h1 hi; exact ⟨x, y, c, b, a⟩
  · refine ⟨fun hc => ?_, fun h => by cases h⟩
    have := (two i j (by omega) hj).2 (hc.sub (by intro d hd; simp at hd; rcases hd with rfl | rfl <;> exact zc_mem (by omega)))
    rw [this] at hf; cases hf
  · refine ⟨fun hc => ?_, fun h => by cases h⟩
    have := (three i j k (by omega) (by omega) hk).2 (hc.sub (by intro d hd; simp at hd; rcases hd with rfl | rfl | rfl <;> exact zc_mem (by omega)))
    rw [this] at hf; cases hf
end Sh

namespace Sh
open Geo Rt

/-- a circle keeps its target -/
def gd (t : Tg) (c : Ci) : Prop := 4 * ((c.x - t.x) * (c.x - t.x) + (c.y - t.y) * (c.y - t.y)) ≤ alw t c * alw t c
instance (t : Tg) (c : Ci) : Decidable (gd t c) := by unfold gd; exact inferInstance

theorem zero_zone (t : Tg) (c : Ci) : f (zone t c) 0 0 ≤ 0 ↔ gd t c := by
  have hs := around_s (t.x - c.x) (t.y - c.y) (alw t c)
  have h1 : f (zone t c) 0 0 * 4 = ((4 * ((c.x - t.x) * (c.x - t.x) + (c.y - t.y) * (c.y - t.y)) - alw t c * alw t c : Int) : Rat) := by
    unfold f zone
    have e1 : (around (t.x - c.x) (t.y - c.y) (alw t c)).x = ((t.x - c.x : Int) : Rat) := rfl
    have e2 : (around (t.x - c.x) (t.y - c.y) (alw t c)).y = ((t.y - c.y : Int) : Rat) := rfl
    rw [e1, e2]
    generalize (around (t.x - c.x) (t.y - c.y) (alw t c)).s = s at *
    simp only [Rat.intCast_sub, Rat.intCast_mul, Rat.intCast_add]
    have : ((4 : Int) : Rat) = 4 := by decide
    rw [this]
    grind
  unfold gd
  constructor
  · intro h
    have : ((4 * ((c.x - t.x) * (c.x - t.x) + (c.y - t.y) * (c.y - t.y)) - alw t c * alw t c : Int) : Rat) ≤ ((0 : Int) : Rat) := by
      rw [← h1]; show _ ≤ (0 : Rat); grind
    have := Rat.intCast_le_intCast.1 this
    omega
  · intro h
    have : ((4 * ((c.x - t.x) * (c.x - t.x) + (c.y - t.y) * (c.y - t.y)) - alw t c * alw t c : Int) : Rat) ≤ ((0 : Int) : Rat) := Rat.intCast_le_intCast.2 (by omega)
    rw [← h1] at this
    have h3 : ((0 : Int) : Rat) = 0 := rfl
    rw [h3] at this
    grind
theorem sq_zero_of {a b : Rat} (h : a * a + b * b ≤ 0) : a = 0 ∧ b = 0 := by
  have h1 := sqnn a
  have h2 := sqnn b
  constructor
  · refine Classical.byContradiction fun hn => ?_
    have := sqpos hn; grind
  · refine Classical.byContradiction fun hn => ?_
    have := sqpos hn; grind
/-- with the play 0 -/
theorem Pok.keeps {ts : List (Tg × Ci)} (h : Pok ts) : feas (zs ts 0) = true ↔ ∀ p ∈ ts, gd p.1 p.2 := by
  rw [h.iff (by decide)]
  unfold CmL zs
  rw [if_neg (by decide)]
  have hr : ∀ x y : Rat, f (around 0 0 0) x y = x * x + y * y := by
    intro x y
    have := around_s 0 0 0
    have e0 : ((0 : Int) : Rat) = 0 := rfl
    have e1 : (around 0 0 0).x = 0 := rfl
    have e2 : (around 0 0 0).y = 0 := rfl
    unfold f
    rw [e0] at this
    rw [e1, e2]
    generalize (around 0 0 0).s = s at *
    grind
  constructor
  · rintro ⟨x, y, hx⟩ p hp
    have h0 := hx (around 0 0 0) (List.mem_append_right _ (by simp))
    rw [hr] at h0
    obtain ⟨rfl, rfl⟩ := sq_zero_of h0
    exact (zero_zone _ _).1 (hx _ (List.mem_append_left _ (List.mem_map.2 ⟨p, hp, rfl⟩)))
  · intro hg
    refine ⟨0, 0, fun d hd => ?_⟩
    rcases List.mem_append.1 hd with h1 | h1
    · obtain ⟨p, hp, rfl⟩ := List.mem_map.1 h1
      exact (zero_zone _ _).2 (hg p hp)
    · rw [List.mem_singleton] at h1; subst h1
      rw [hr]; grind

/-- more tolerance -/
def moreT (t : Tg) (m : Int) : Tg := { t with tol := t.tol + m }
theorem alw_more (t : Tg) (c : Ci) (m : Int) : alw (moreT t m) c = alw t c + m := by
  unfold alw moreT extra; simp only; omega
theorem zone_more {t : Tg} {c : Ci} {m : Int} (h0 : 0 ≤ m) (h : 0 ≤ alw t c) {x y : Rat} (hf : f (zone t c) x y ≤ 0) : f (zone (moreT t m) c) x y ≤ 0 := by
  refine f_wide (d := zone t c) (e := zone (moreT t m) c) rfl rfl ?_ hf
  have h1 := around_s (t.x - c.x) (t.y - c.y) (alw t c)
  have h2 := around_s ((moreT t m).x - c.x) ((moreT t m).y - c.y) (alw (moreT t m) c)
  rw [alw_more] at h2
  have h3 : (0 : Rat) ≤ (alw t c : Rat) := Rat.intCast_nonneg.2 h
  have h4 : (alw t c : Rat) ≤ ((alw t c + m : Int) : Rat) := Rat.intCast_le_intCast.2 (by omega)
  have := le_sq h3 h4
  show (around (t.x - c.x) (t.y - c.y) (alw t c)).s ≤ (around ((moreT t m).x - c.x) ((moreT t m).y - c.y) (alw (moreT t m) c)).s
  rw [alw_more]
  grind
/-- more play and more tolerance of the first target -/
theorem Pok.wide {t : Tg} {c : Ci} {r : List (Tg × Ci)} (h : Pok ((t, c) :: r)) {m : Int} (hm : 0 ≤ m) (h' : Pok ((moreT t m, c) :: r)) {p q : Int} (hp : p ≤ 100000) (hq : q ≤ 100000)
    (hpq : p < 0 ∧ q = p ∨ 0 ≤ p ∧ p ≤ q) (hf : feas (zs ((t, c) :: r) p) = true) : feas (zs ((moreT t m, c) :: r) q) = true := by
  have ha := (alw_bd (h.t (t, c) (by simp)) (h.w (t, c) (by simp))).1
  rw [h'.iff hq]
  obtain ⟨x, y, hx⟩ := (h.iff hp).1 hf
  refine ⟨x, y, fun d hd => ?_⟩
  unfold zs at hd hx
  rcases List.mem_append.1 hd with h1 | h1
  · rw [List.map_cons] at h1
    rcases List.mem_cons.1 h1 with rfl | h1
    · exact zone_more hm ha (hx _ (List.mem_append_left _ (by simp)))
    · exact hx d (List.mem_append_left _ (by rw [List.map_cons]; exact List.mem_cons_of_mem _ h1))
  · rcases hpq with ⟨h2, rfl⟩ | ⟨h2, h3⟩
    · rw [if_pos h2] at h1; simp at h1
    · rw [if_neg (by omega), List.mem_singleton] at h1; subst h1
      have := hx (around 0 0 p) (List.mem_append_right _ (by rw [if_neg (by omega)]; simp))
      exact f_wide (d := around 0 0 p) (e := around 0 0 q) rfl rfl (around_mono h2 h3) this
end Sh

namespace Sh
open Geo Rt

def inb (n : Int) : Bool := decide (-100000 ≤ n) && decide (n ≤ 100000)
def szb (n : Int) : Bool := decide (1 ≤ n) && decide (n ≤ 100000)
theorem inb_iff {n : Int} : inb n = true ↔ -100000 ≤ n ∧ n ≤ 100000 := by unfold inb; simp
theorem szb_iff {n : Int} : szb n = true ↔ 1 ≤ n ∧ n ≤ 100000 := by unfold szb; simp
/-- the error of a circle -/
def rchk (c : Ci) : Int := if inb c.x = true ∧ inb c.y = true ∧ szb c.n = true then 0 else 2
/-- the error of a target -/
def tchk (t : Tg) : Int :=
  if ¬ (inb t.x = true ∧ inb t.y = true ∧ szb t.lo = true ∧ szb t.hi = true) then 2 else if t.hi < t.lo then 9
  else if t.tol < 0 ∨ 100000 < t.tol ∨ (t.pin = false ∧ t.lo ≤ t.tol) then 2 else if t.mat < 0 ∨ 2 < t.mat then 1 else 0
theorem rchk_iff (c : Ci) : rchk c = 0 ↔ Cok c := by
  unfold rchk
  constructor
  · intro h
    split at h
    · rename_i k
      obtain ⟨k1, k2, k3⟩ := k
      obtain ⟨a, b⟩ := inb_iff.1 k1
      obtain ⟨c, d⟩ := inb_iff.1 k2
      obtain ⟨e, f⟩ := szb_iff.1 k3
      exact ⟨a, b, c, d, e, f⟩
    · cases h
  · rintro ⟨a, b, c, d, e, f⟩; rw [if_pos ⟨inb_iff.2 ⟨a, b⟩, inb_iff.2 ⟨c, d⟩, szb_iff.2 ⟨e, f⟩⟩]
theorem tchk_iff (t : Tg) : tchk t = 0 ↔ Tok t := by
  unfold tchk
  constructor
  · intro h
    split at h
    · cases h
    · rename_i k1
      obtain ⟨l1, l2, l3, l4⟩ := Classical.not_not.1 k1
      obtain ⟨a, b⟩ := inb_iff.1 l1
      obtain ⟨c, d⟩ := inb_iff.1 l2
      obtain ⟨e, f⟩ := szb_iff.1 l3
      obtain ⟨g, i⟩ := szb_iff.1 l4
      split at h
      · cases h
      · rename_i k2
        split at h
        · cases h
        · rename_i k3
          split at h
          · cases h
          · rename_i k4
            refine ⟨a, b, c, d, e, f, g, i, by omega, by omega, by omega, ?_, by omega, by omega⟩
            cases hp : t.pin with
            | true => exact .inl rfl
            | false => exact .inr (by have h9 : ¬ t.lo ≤ t.tol := fun q => k3 (.inr (.inr ⟨hp, q⟩)); omega)
  · rintro ⟨a, b, c, d, e, f, g, i, j, k, l, m, n, o⟩
    have n1 : ¬ ¬ (inb t.x = true ∧ inb t.y = true ∧ szb t.lo = true ∧ szb t.hi = true) := fun h => h ⟨inb_iff.2 ⟨a, b⟩, inb_iff.2 ⟨c, d⟩, szb_iff.2 ⟨e, f⟩, szb_iff.2 ⟨g, i⟩⟩
    have n2 : ¬ t.hi < t.lo := by omega
    have n3 : ¬ (t.tol < 0 ∨ 100000 < t.tol ∨ (t.pin = false ∧ t.lo ≤ t.tol)) := by
      rintro (h | h | ⟨h1, h2⟩)
      · omega
      · omega
      · rcases m with m | m
        · rw [m] at h1; cases h1
        · omega
    have n4 : ¬ (t.mat < 0 ∨ 2 < t.mat) := by omega
    rw [if_neg n1, if_neg n2, if_neg n3, if_neg n4]
/-- the first error -/
def fst0 {α : Type} (f : α → Int) : List α → Int
  | [] => 0
  | a :: t => if f a = 0 then fst0 f t else f a
theorem fst0_iff {α : Type} (f : α → Int) : ∀ l : List α, fst0 f l = 0 ↔ ∀ a ∈ l, f a = 0
  | [] => by simp [fst0]
  | a :: t => by
    unfold fst0
    by_cases h : f a = 0
    · rw [if_pos h, fst0_iff f t]; simp [h]
    · rw [if_neg h]; simp [h]
theorem fst0_drop {α : Type} (f : α → Int) {l : List α} {k : Nat} {a : α} (h : l[k]? = some a) : fst0 f (l.drop k) = if f a = 0 then fst0 f (l.drop (k + 1)) else f a := by
  obtain ⟨hk, e⟩ := List.getElem?_eq_some_iff.1 h
  rw [List.drop_eq_getElem_cons hk, e]; rfl
/-- the error of a plate -/
def pchk (ts : List Tg) (cs : List Ci) : Int :=
  if 16 < ts.length then 5 else if fst0 tchk ts ≠ 0 then fst0 tchk ts else if cs.length ≠ ts.length then 8 else fst0 rchk cs
/-- all sizes are within their limits -/
def winb (t : Tg) (c : Ci) : Bool := decide (t.lo ≤ c.n) && decide (c.n ≤ t.hi)
theorem winb_iff (t : Tg) (c : Ci) : winb t c = true ↔ Win t c := by
  unfold winb; simp only [Bool.and_eq_true, decide_eq_true_eq]
  exact ⟨fun ⟨a, b⟩ => ⟨a, b⟩, fun ⟨a, b⟩ => ⟨a, b⟩⟩
def wins (ts : List Tg) (cs : List Ci) : Bool := (ts.zip cs).all fun p => winb p.1 p.2
theorem wins_drop {ts : List Tg} {cs : List Ci} {k : Nat} {t : Tg} {c : Ci} (h : ts[k]? = some t) (h' : cs[k]? = some c) : wins (ts.drop k) (cs.drop k) = (winb t c && wins (ts.drop (k + 1)) (cs.drop (k + 1))) := by
  obtain ⟨hk, e⟩ := List.getElem?_eq_some_iff.1 h
  obtain ⟨hk', e'⟩ := List.getElem?_eq_some_iff.1 h'
  rw [List.drop_eq_getElem_cons hk, e, List.drop_eq_getElem_cons hk', e']; rfl
/-- the error of a task -/
def schk (ts : List Tg) (cs : List Ci) (play : Int) : Int :=
  if pchk ts cs ≠ 0 then pchk ts cs else if ts = [] then 13 else if wins ts cs = false then 14 else if play < -1 ∨ 100000 < play then 2 else 0
theorem pchk_iff (ts : List Tg) (cs : List Ci) : pchk ts cs = 0 ↔ ts.length ≤ 16 ∧ cs.length = ts.length ∧ (∀ t ∈ ts, Tok t) ∧ ∀ c ∈ cs, Cok c := by
  unfold pchk
  have h1 : fst0 tchk ts = 0 ↔ ∀ t ∈ ts, Tok t := by rw [fst0_iff]; exact forall_congr' fun a => imp_congr_right fun _ => tchk_iff a
  have h2 : fst0 rchk cs = 0 ↔ ∀ c ∈ cs, Cok c := by rw [fst0_iff]; exact forall_congr' fun a => imp_congr_right fun _ => rchk_iff a
  constructor
  · intro h
    split at h
    · cases h
    · split at h
      · rename_i k; exact absurd h k
      · split at h
        · cases h
        · rename_i a b c
          exact ⟨by omega, Classical.not_not.1 c, h1.1 (Classical.not_not.1 b), h2.1 h⟩
  · rintro ⟨a, b, c, d⟩
    rw [if_neg (by omega), if_neg (fun k => k (h1.2 c)), if_neg (fun k => k b), h2.2 d]
theorem wins_iff {ts : List Tg} {cs : List Ci} : wins ts cs = true ↔ ∀ p ∈ ts.zip cs, Win p.1 p.2 := by
  unfold wins
  rw [List.all_eq_true]
  exact forall_congr' fun p => imp_congr_right fun _ => winb_iff p.1 p.2
theorem schk_iff (ts : List Tg) (cs : List Ci) (play : Int) : schk ts cs play = 0 ↔ (ts.length ≤ 16 ∧ cs.length = ts.length ∧ Pok (ts.zip cs)) ∧ -1 ≤ play ∧ play ≤ 100000 := by
  unfold schk
  constructor
  · intro h
    split at h
    · rename_i k; exact absurd h k
    · split at h
      · cases h
      · split at h
        · cases h
        · split at h
          · cases h
          · rename_i a b c d
            obtain ⟨p1, p2, p3, p4⟩ := (pchk_iff ts cs).1 (Classical.not_not.1 a)
            refine ⟨⟨p1, p2, ⟨fun p hp => p3 _ (List.of_mem_zip hp).1, fun p hp => p4 _ (List.of_mem_zip hp).2, wins_iff.1 (by simpa using c), ?_⟩⟩, by omega, by omega⟩
            intro e
            have := congrArg List.length e
            rw [List.length_zip, p2] at this
            simp at this
            exact b this
  · rintro ⟨⟨a, b, c⟩, d, e⟩
    have hp : pchk ts cs = 0 := by
      rw [pchk_iff]
      refine ⟨a, b, fun t ht => ?_, fun x hx => ?_⟩
      · obtain ⟨k, hk, rfl⟩ := List.mem_iff_getElem.1 ht
        have hk' : k < (ts.zip cs).length := by rw [List.length_zip]; omega
        have := c.t _ (List.getElem_mem hk')
        rwa [List.getElem_zip] at this
      · obtain ⟨k, hk, rfl⟩ := List.mem_iff_getElem.1 hx
        have hk' : k < (ts.zip cs).length := by rw [List.length_zip]; omega
        have := c.c _ (List.getElem_mem hk')
        rwa [List.getElem_zip] at this
    rw [if_neg (fun k => k hp), if_neg, if_neg, if_neg (by omega)]
    · rw [wins_iff.2 c.w]; simp
    · rintro rfl; exact c.n rfl
end Sh
