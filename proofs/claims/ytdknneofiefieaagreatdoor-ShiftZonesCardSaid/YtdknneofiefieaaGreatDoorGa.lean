import Derived.Lib.ItoaNum

namespace Dec
open Go.Lib

/-- the number that decimal digits are -/
def vd (l : List UInt8) : Nat := l.foldl (fun a c => 10 * a + (c.toNat - 48)) 0
def dig (c : UInt8) : Prop := 48 ≤ c.toNat ∧ c.toNat ≤ 57
def digs (l : List UInt8) : Prop := ∀ c ∈ l, dig c
instance (c : UInt8) : Decidable (dig c) := by unfold dig; exact inferInstance
instance (l : List UInt8) : Decidable (digs l) := by unfold digs; exact inferInstance

theorem vd_snoc (l : List UInt8) (c : UInt8) : vd (l ++ [c]) = 10 * vd l + (c.toNat - 48) := by simp [vd, List.foldl_append]
theorem fold_acc (l : List UInt8) (a : Nat) : l.foldl (fun a c => 10 * a + (c.toNat - 48)) a = a * 10 ^ l.length + vd l := by
  induction l generalizing a with
  | nil => simp [vd]
  | cons c t ih =>
    simp only [List.foldl_cons, vd]
    rw [ih, ih (10 * 0 + (c.toNat - 48))]
    simp only [List.length_cons, Nat.pow_succ]
    generalize c.toNat - 48 = d
    rw [Nat.add_mul, Nat.add_mul]
    have : 10 * a * 10 ^ t.length = a * (10 ^ t.length * 10) := by rw [Nat.mul_comm 10 a, Nat.mul_assoc, Nat.mul_comm 10]
    omega
theorem vd_append (l k : List UInt8) : vd (l ++ k) = vd l * 10 ^ k.length + vd k := by
  show (l ++ k).foldl _ 0 = _
  rw [List.foldl_append, fold_acc]; rfl
theorem vd_cons (c : UInt8) (t : List UInt8) : vd (c :: t) = (c.toNat - 48) * 10 ^ t.length + vd t := by
  have := vd_append [c] t
  simpa [vd] using this
theorem vd_nil : vd [] = 0 := rfl

theorem dig_toNat {d : Nat} (h : d < 10) : (UInt8.ofNat (48 + d)).toNat = 48 + d := by
  simp [UInt8.toNat_ofNat']; omega
theorem digs_nil : digs [] := fun c h => by cases h
theorem digs_append {l k : List UInt8} : digs (l ++ k) ↔ digs l ∧ digs k :=
  ⟨fun h => ⟨fun c hc => h c (List.mem_append.2 (.inl hc)), fun c hc => h c (List.mem_append.2 (.inr hc))⟩, fun h c hc => (List.mem_append.1 hc).elim (h.1 c) (h.2 c)⟩
theorem digs_cons {c : UInt8} {l : List UInt8} : digs (c :: l) ↔ dig c ∧ digs l := by unfold digs; simp

theorem dec_digs (n : Nat) : digs (decDigits n) := by
  induction n using Nat.strongRecOn with
  | _ n ih =>
    rw [decDigits]
    split
    · rename_i h
      intro c hc; simp only [List.mem_singleton] at hc; subst hc; unfold dig; rw [dig_toNat h]; omega
    · rename_i h
      refine digs_append.2 ⟨ih (n / 10) (by omega), fun c hc => ?_⟩
      simp only [List.mem_singleton] at hc; subst hc; unfold dig; rw [dig_toNat (by omega)]; omega

theorem vd_dec (n : Nat) : vd (decDigits n) = n := by
  induction n using Nat.strongRecOn with
  | _ n ih =>
    rw [decDigits]
    split
    · rename_i h; simp only [vd, List.foldl_cons, List.foldl_nil]; rw [dig_toNat h]; omega
    · rename_i h; rw [vd_snoc, ih (n / 10) (by omega), dig_toNat (by omega)]; omega

theorem dec_ne_nil (n : Nat) : decDigits n ≠ [] := by
  rw [decDigits]; split <;> simp

theorem vd_lt (l : List UInt8) (h : digs l) : vd l < 10 ^ l.length := by
  induction l with
  | nil => simp [vd]
  | cons c t ih =>
    rw [vd_cons]
    have := ih (digs_cons.1 h).2
    have hc := (digs_cons.1 h).1
    unfold dig at hc
    have : (c.toNat - 48) * 10 ^ t.length ≤ 9 * 10 ^ t.length := Nat.mul_le_mul_right _ (by omega)
    simp only [List.length_cons, Nat.pow_succ]; omega

/-- digits without a zero in front -/
def lead (l : List UInt8) : Prop := ∀ c t, l = c :: t → c = 48 → t = []
theorem dec_lead (n : Nat) : lead (decDigits n) := by
  induction n using Nat.strongRecOn with
  | _ n ih =>
    intro c t hc h48
    rw [decDigits] at hc
    split at hc
    · cases hc; rfl
    · rename_i h
      have h1 := ih (n / 10) (by omega)
      cases hd : decDigits (n / 10) with
      | nil => exact (dec_ne_nil _ hd).elim
      | cons c' t' =>
        rw [hd] at hc
        cases hc
        have := h1 c t' hd h48
        subst this
        subst h48
        have h2 := vd_dec (n / 10)
        rw [hd] at h2
        have : vd [(48 : UInt8)] = 0 := by decide
        omega

theorem dec_of_vd {l : List UInt8} (hn : l ≠ []) (hd : digs l) (hl : lead l) : decDigits (vd l) = l := by
  induction hk : l.length using Nat.strongRecOn generalizing l with
  | _ k ih =>
    rcases List.eq_nil_or_concat l with rfl | ⟨t, c, rfl⟩
    · exact (hn rfl).elim
    · have hc : dig c := hd c (by simp)
      have ht : digs t := fun x hx => hd x (by simp [hx])
      simp only [List.concat_eq_append] at *
      unfold dig at hc
      have hcc : UInt8.ofNat (48 + (c.toNat - 48)) = c := by
        have : 48 + (c.toNat - 48) = c.toNat := by omega
        rw [this]; simp
      rw [vd_snoc]
      by_cases e : t = []
      · subst e
        rw [decDigits]
        simp only [vd, List.foldl_nil, Nat.mul_zero, Nat.zero_add]
        rw [dif_pos (by omega), hcc]; rfl
      · have hlt : lead t := by
          intro x y hxy hx
          have := hl x (y ++ [c]) (by rw [hxy]; rfl) hx
          simp at this
        have h0 : 1 ≤ vd t := by
          cases t with
          | nil => exact (e rfl).elim
          | cons x y =>
            have hx := (digs_cons.1 ht).1
            unfold dig at hx
            have hne : x ≠ 48 := by
              intro h
              have := hl x (y ++ [c]) rfl h
              simp at this
            have hne' : x.toNat ≠ 48 := fun h => hne (by
              exact UInt8.toNat_inj.1 (h.trans rfl))
            rw [vd_cons]
            have : 1 * 10 ^ y.length ≤ (x.toNat - 48) * 10 ^ y.length := Nat.mul_le_mul_right _ (by omega)
            have : 0 < 10 ^ y.length := Nat.pow_pos (by omega)
            omega
        rw [decDigits, dif_neg (by omega)]
        have e1 : (10 * vd t + (c.toNat - 48)) / 10 = vd t := by omega
        have e2 : (10 * vd t + (c.toNat - 48)) % 10 = c.toNat - 48 := by omega
        rw [e1, e2, hcc, ih t.length (by simp at hk; omega) e ht hlt rfl]

theorem dec_inj {a b : Nat} (h : decDigits a = decDigits b) : a = b := by rw [← vd_dec a, ← vd_dec b, h]
theorem itoa_inj {a b : Int} (h : itoa a = itoa b) : a = b := by
  unfold itoa at h
  have no : ∀ (n : Nat) t, decDigits n ≠ 45 :: t := by
    intro n t e
    have := dec_digs n 45 (by rw [e]; simp)
    unfold dig at this
    have : (45 : UInt8).toNat = 45 := rfl
    omega
  by_cases h1 : a < 0 <;> by_cases h2 : b < 0
  · rw [if_pos h1, if_pos h2] at h
    have := dec_inj (List.cons.inj h).2; omega
  · rw [if_pos h1, if_neg h2] at h; exact (no _ _ h.symm).elim
  · rw [if_neg h1, if_pos h2] at h; exact (no _ _ h).elim
  · rw [if_neg h1, if_neg h2] at h
    have := dec_inj h; omega
theorem dec_len (n k : Nat) (hk : 0 < k) : (decDigits n).length ≤ k ↔ n < 10 ^ k := by
  rw [decDigits_length]
  constructor
  · intro h
    exact Nat.lt_of_lt_of_le (lt_pow_nDigits n) (Nat.pow_le_pow_right (by omega) h)
  · intro h
    have h1 := nDigits_pos n
    refine Classical.byContradiction fun hn => ?_
    by_cases h0 : n = 0
    · subst h0; rw [nDigits_small (by omega)] at hn; omega
    · -- 10 ^ (nDigits n - 1) ≤ n
      have : 10 ^ (nDigits n - 1) ≤ n := by
        have h2 := vd_dec n
        have h3 := decDigits_length n
        have h4 := dec_lead n
        cases hd : decDigits n with
        | nil => exact (dec_ne_nil n hd).elim
        | cons x y =>
          rw [hd] at h2 h3
          have hx := dec_digs n x (by rw [hd]; simp)
          unfold dig at hx
          rw [vd_cons] at h2
          simp at h3
          have hne : x ≠ 48 := by
            intro hx48
            have := h4 x y hd hx48
            subst this; subst hx48
            simp [vd] at h2; omega
          have hne' : x.toNat ≠ 48 := fun h => hne (by
            exact UInt8.toNat_inj.1 (h.trans rfl))
          have : 1 * 10 ^ y.length ≤ (x.toNat - 48) * 10 ^ y.length := Nat.mul_le_mul_right _ (by omega)
          have e : nDigits n - 1 = y.length := by omega
          rw [e]; omega
      have : 10 ^ k ≤ 10 ^ (nDigits n - 1) := Nat.pow_le_pow_right (by omega) (by omega)
      omega
end Dec

namespace Dec
open Go.Lib

/-- the number behind place i -/
def sf (l : List UInt8) (i : Nat) : Nat := vd (l.drop i)
theorem sf_end {l : List UInt8} {i : Nat} (h : l.length ≤ i) : sf l i = 0 := by unfold sf; rw [List.drop_eq_nil_of_le h]; rfl
theorem sf_zero (l : List UInt8) : sf l 0 = vd l := rfl
theorem sf_step {l : List UInt8} {i : Nat} (h : i < l.length) : sf l i = (l[i].toNat - 48) * 10 ^ (l.length - 1 - i) + sf l (i + 1) := by
  unfold sf
  rw [List.drop_eq_getElem_cons h, vd_cons]
  rw [List.length_drop, show l.length - (i + 1) = l.length - 1 - i by omega]
theorem sf_set {l : List UInt8} {i j : Nat} (c : UInt8) (h : i < j) : sf (l.set i c) j = sf l j := by
  unfold sf; rw [List.drop_set_of_lt h]

/-- digits with zeros in front -/
theorem vd_zeros (k : Nat) (l : List UInt8) : vd (List.replicate k 48 ++ l) = vd l := by
  have : vd (List.replicate k (48 : UInt8)) = 0 := by
    induction k with
    | zero => rfl
    | succ k ih => rw [List.replicate_succ, vd_cons, ih]; simp
  rw [vd_append, this]; omega

/-- zeros in front struck, but for one digit -/
def bare : List UInt8 → List UInt8
  | [] => []
  | [c] => [c]
  | c :: d :: t => if c = 48 then bare (d :: t) else c :: d :: t
theorem bare_vd (l : List UInt8) : vd (bare l) = vd l := by
  induction l with
  | nil => rfl
  | cons c t ih =>
    cases t with
    | nil => rfl
    | cons d t =>
      unfold bare
      split
      · rename_i h; subst h; rw [ih, vd_cons 48]; simp
      · rfl
theorem bare_ne (l : List UInt8) (h : l ≠ []) : bare l ≠ [] := by
  induction l with
  | nil => exact (h rfl).elim
  | cons c t ih =>
    cases t with
    | nil => simp [bare]
    | cons d t =>
      unfold bare
      split
      · exact ih (by simp)
      · simp
theorem bare_digs (l : List UInt8) (h : digs l) : digs (bare l) := by
  induction l with
  | nil => exact h
  | cons c t ih =>
    cases t with
    | nil => exact h
    | cons d t =>
      unfold bare
      split
      · exact ih (digs_cons.1 h).2
      · exact h
theorem bare_lead (l : List UInt8) : lead (bare l) := by
  induction l with
  | nil => intro c t h; cases h
  | cons c t ih =>
    cases t with
    | nil => intro x y h _; cases h; rfl
    | cons d t =>
      unfold bare
      split
      · exact ih
      · rename_i h
        intro x y e hx
        cases e
        exact (h hx).elim
/-- digits of any kind, struck, are the digits of their number -/
theorem bare_dec {l : List UInt8} (hn : l ≠ []) (hd : digs l) : bare l = decDigits (vd l) := by
  have := dec_of_vd (bare_ne l hn) (bare_digs l hd) (bare_lead l)
  rw [bare_vd] at this; exact this.symm

/-! paper: one column -/
theorem add_col {x y c : Nat} {A B O P : Nat} (h : A + B = O + c * P) : (x * P + A) + (y * P + B) = ((x + y + c) % 10 * P + O) + (x + y + c) / 10 * (10 * P) := by
  have e := Nat.div_add_mod (x + y + c) 10
  generalize (x + y + c) / 10 = q at *
  generalize (x + y + c) % 10 = r at *
  have h2 : (x + y + c) * P = 10 * q * P + r * P := by rw [← e]; grind
  grind
/-- A - B with a borrow -/
theorem sub_col {x y c d b : Nat} {A B O P : Nat} (h : A + c * P = O + B) (hb : x + 10 * b = d + y + c) : (x * P + A) + b * (10 * P) = (d * P + O) + (y * P + B) := by
  have h2 : x * P + 10 * b * P = d * P + y * P + c * P := by
    have := congrArg (· * P) hb
    simp only [Nat.add_mul] at this
    exact this
  grind
end Dec

namespace Wd

def B : Nat := 1000000000
/-- the word i of a magnitude -/
def wd (v i : Nat) : Nat := v / B ^ i % B
theorem B_pos : 0 < B := by decide
theorem pow_pos (i : Nat) : 0 < B ^ i := Nat.pow_pos B_pos
theorem wd_lt (v i : Nat) : wd v i < B := Nat.mod_lt _ B_pos
theorem wd_le (v i : Nat) : wd v i ≤ 999999999 := by have := wd_lt v i; unfold B at this; omega
theorem wd_zero (i : Nat) : wd 0 i = 0 := by unfold wd; simp
theorem wd_big {v i : Nat} (h : v < B ^ i) : wd v i = 0 := by unfold wd; rw [Nat.div_eq_of_lt h]; rfl
theorem mod_succ (v i : Nat) : v % B ^ (i + 1) = v % B ^ i + wd v i * B ^ i := by
  unfold wd
  rw [Nat.pow_succ, Nat.mod_mul, Nat.mul_comm (v / B ^ i % B)]

/-- how many words a magnitude has -/
def nw (v : Nat) : Nat := if h : v = 0 then 0 else nw (v / B) + 1
termination_by v
decreasing_by exact Nat.div_lt_self (by omega) (by decide)
theorem nw_zero : nw 0 = 0 := by rw [nw]; simp
theorem nw_pos {v : Nat} (h : v ≠ 0) : nw v = nw (v / B) + 1 := by rw [nw, dif_neg h]
theorem nw_le {v : Nat} : ∀ {k : Nat}, nw v ≤ k ↔ v < B ^ k := by
  induction v using Nat.strongRecOn with
  | _ v ih =>
    intro k
    by_cases h : v = 0
    · subst h; rw [nw_zero]; simp [pow_pos]
    · rw [nw_pos h]
      cases k with
      | zero => simp; omega
      | succ k =>
        have := ih (v / B) (Nat.div_lt_self (by omega) (by decide)) (k := k)
        rw [Nat.succ_le_succ_iff, this, Nat.pow_succ, Nat.div_lt_iff_lt_mul B_pos]
theorem lt_nw (v : Nat) : v < B ^ nw v := nw_le.1 (Nat.le_refl _)
theorem le_nw {v : Nat} (h : v ≠ 0) : B ^ (nw v - 1) ≤ v := by
  refine Classical.byContradiction fun hn => ?_
  have := nw_le.2 (show v < B ^ (nw v - 1) by omega)
  rw [nw_pos h] at this
  omega
theorem top_ne {v : Nat} (h : v ≠ 0) : wd v (nw v - 1) ≠ 0 := by
  have h1 := le_nw h
  have h2 := lt_nw v
  have h3 : nw v = (nw v - 1) + 1 := by rw [nw_pos h]; omega
  unfold wd
  rw [h3, Nat.pow_succ] at h2
  have h4 : v / B ^ (nw v - 1) < B := by rw [Nat.div_lt_iff_lt_mul (pow_pos _), Nat.mul_comm]; exact h2
  rw [Nat.mod_eq_of_lt h4]
  have := (Nat.le_div_iff_mul_le (pow_pos (nw v - 1)) (x := 1) (y := v)).2 (by omega)
  omega
theorem nw_eq_zero {v : Nat} : nw v = 0 ↔ v = 0 := by
  constructor
  · intro h; refine Classical.byContradiction fun hn => ?_
    rw [nw_pos hn] at h; omega
  · intro h; subst h; exact nw_zero
theorem wd_above {v i : Nat} (h : nw v ≤ i) : wd v i = 0 := wd_big (nw_le.1 h)
/-- a top word that is 0 may be left out -/
theorem nw_trim {v n : Nat} (h : nw v ≤ n + 1) (h0 : wd v n = 0) : nw v ≤ n := by
  rw [nw_le] at *
  have := mod_succ v n
  rw [Nat.mod_eq_of_lt h, h0] at this
  have := Nat.mod_lt v (pow_pos n)
  omega
theorem trim_ne {v n : Nat} (h : nw v ≤ n + 1) (h0 : wd v n ≠ 0) : nw v = n + 1 := by
  refine Nat.le_antisymm h (Classical.byContradiction fun hn => h0 (wd_above (by omega)))

/-- two magnitudes with the same words are the same -/
theorem ext {u v : Nat} (h : ∀ i, wd u i = wd v i) : u = v := by
  have key : ∀ i, u % B ^ i = v % B ^ i := by
    intro i
    induction i with
    | zero => simp [Nat.mod_one]
    | succ i ih => rw [mod_succ, mod_succ, ih, h]
  have := key (max (nw u) (nw v))
  rwa [Nat.mod_eq_of_lt (nw_le.1 (Nat.le_max_left _ _)), Nat.mod_eq_of_lt (nw_le.1 (Nat.le_max_right _ _))] at this

/-- order by the words from the top -/
theorem mod_lt_of {u v i : Nat} (h : wd u i < wd v i) : u % B ^ (i + 1) < v % B ^ (i + 1) := by
  rw [mod_succ, mod_succ]
  have h1 := Nat.mod_lt u (pow_pos i)
  have h2 : (wd u i + 1) * B ^ i ≤ wd v i * B ^ i := Nat.mul_le_mul_right _ h
  rw [Nat.add_mul, Nat.one_mul] at h2
  generalize wd u i * B ^ i = a at *
  generalize wd v i * B ^ i = b at *
  generalize B ^ i = c at *
  omega

/-! carry -/
/-- what is carried to place i: floor of the sum of the lower parts -/
def cr (v f y : Int) (up i : Nat) : Int := (v % (B : Int) ^ (i + up) + f * (y % (B : Int) ^ i) * (B : Int) ^ up) / (B : Int) ^ (i + up)

theorem cr_zero (v f y : Int) (up : Nat) : cr v f y up 0 = 0 := by
  unfold cr
  simp only [Nat.zero_add, Int.pow_zero, Int.emod_one, Int.mul_zero, Int.zero_mul, Int.add_zero]
  exact Int.ediv_eq_zero_of_lt (Int.emod_nonneg _ (by have := pow_pos up; have e : ((B : Int) ^ up) = ((B ^ up : Nat) : Int) := by simp
                                                      rw [e]; omega)) (Int.emod_lt_of_pos _ (by have := pow_pos up; have e : ((B : Int) ^ up) = ((B ^ up : Nat) : Int) := by simp
                                                                                                rw [e]; omega))
theorem iB (i : Nat) : ((B : Int) ^ i) = ((B ^ i : Nat) : Int) := by simp
theorem iB_pos (i : Nat) : 0 < (B : Int) ^ i := by rw [iB]; have := pow_pos i; omega

theorem emod_succ (v : Int) (i : Nat) : v % (B : Int) ^ (i + 1) = v % (B : Int) ^ i + (v / (B : Int) ^ i % B) * (B : Int) ^ i := by
  have h1 := Int.emod_add_mul_ediv v ((B : Int) ^ i)
  have h2 := Int.emod_add_mul_ediv (v / (B : Int) ^ i) B
  have h3 : v = (v % (B : Int) ^ i + (v / (B : Int) ^ i % B) * (B : Int) ^ i) + (v / (B : Int) ^ i / B) * (B : Int) ^ (i + 1) := by
    rw [Int.pow_succ]
    generalize (B : Int) ^ i = P at *
    generalize v / P = q at *
    grind
  have h4 := Int.emod_nonneg v (b := (B : Int) ^ i) (by have := iB_pos i; omega)
  have h5 := Int.emod_lt_of_pos v (iB_pos i)
  have h6 := Int.emod_nonneg (v / (B : Int) ^ i) (b := B) (by decide)
  have h7 := Int.emod_lt_of_pos (v / (B : Int) ^ i) (b := B) (by decide)
  have h8 : 0 ≤ (v / (B : Int) ^ i % B) * (B : Int) ^ i := Int.mul_nonneg h6 (by have := iB_pos i; omega)
  have h9 : (v / (B : Int) ^ i % B) * (B : Int) ^ i ≤ (B - 1) * (B : Int) ^ i := Int.mul_le_mul_of_nonneg_right (by omega) (by have := iB_pos i; omega)
  have h10 : (v % (B : Int) ^ i + (v / (B : Int) ^ i % B) * (B : Int) ^ i) < (B : Int) ^ (i + 1) := by
    rw [Int.pow_succ]
    generalize (B : Int) ^ i = P at *
    have : ((B : Int) - 1) * P = P * B - P := by grind
    omega
  have h11 : v % (B : Int) ^ (i + 1) = ((v % (B : Int) ^ i + (v / (B : Int) ^ i % B) * (B : Int) ^ i) + (v / (B : Int) ^ i / B) * (B : Int) ^ (i + 1)) % (B : Int) ^ (i + 1) := by rw [← h3]
  rw [h11, Int.add_mul_emod_self_right]
  exact Int.emod_eq_of_lt (by omega) h10

/-- one step of carry -/
theorem cr_succ (v f y : Int) (up i : Nat) :
    cr v f y up (i + 1) = (v / (B : Int) ^ (i + up) % B + cr v f y up i + f * (y / (B : Int) ^ i % B)) / B := by
  unfold cr
  have e : i + 1 + up = (i + up) + 1 := by omega
  rw [e, emod_succ v (i + up), emod_succ y i, Int.pow_succ]
  have e2 : (B : Int) ^ (i + up) = (B : Int) ^ i * (B : Int) ^ up := Int.pow_add ..
  rw [Int.mul_comm ((B : Int) ^ (i + up)) B, Int.mul_comm (B : Int) ((B : Int) ^ (i + up)), ← Int.ediv_ediv_of_nonneg (by have := iB_pos (i + up); omega)]
  congr 1
  have : v % (B : Int) ^ (i + up) + (v / (B : Int) ^ (i + up) % B) * (B : Int) ^ (i + up) + f * (y % (B : Int) ^ i + (y / (B : Int) ^ i % B) * (B : Int) ^ i) * (B : Int) ^ up
      = (v % (B : Int) ^ (i + up) + f * (y % (B : Int) ^ i) * (B : Int) ^ up) + (v / (B : Int) ^ (i + up) % B + f * (y / (B : Int) ^ i % B)) * (B : Int) ^ (i + up) := by
    rw [e2]; grind
  rw [this, Int.add_mul_ediv_right _ _ (by have := iB_pos (i + up); omega)]
  omega

/-- the word that a step of carry leaves -/
theorem cr_word (v f y : Int) (up i : Nat) :
    (v + f * y * (B : Int) ^ up) / (B : Int) ^ (i + up) % B = (v / (B : Int) ^ (i + up) % B + cr v f y up i + f * (y / (B : Int) ^ i % B)) % B := by
  have e2 : (B : Int) ^ (i + up) = (B : Int) ^ i * (B : Int) ^ up := Int.pow_add ..
  have hv := Int.emod_add_mul_ediv v ((B : Int) ^ (i + up))
  have hy := Int.emod_add_mul_ediv y ((B : Int) ^ i)
  have : v + f * y * (B : Int) ^ up = (v % (B : Int) ^ (i + up) + f * (y % (B : Int) ^ i) * (B : Int) ^ up) + (v / (B : Int) ^ (i + up) + f * (y / (B : Int) ^ i)) * (B : Int) ^ (i + up) := by
    rw [e2] at hv ⊢
    generalize y / (B : Int) ^ i = q at *
    generalize v / ((B : Int) ^ i * (B : Int) ^ up) = p at *
    generalize y % (B : Int) ^ i = r at *
    generalize v % ((B : Int) ^ i * (B : Int) ^ up) = s at *
    subst hv; subst hy; grind
  rw [this, Int.add_mul_ediv_right _ _ (by have := iB_pos (i + up); omega)]
  unfold cr
  generalize (v % (B : Int) ^ (i + up) + f * (y % (B : Int) ^ i) * (B : Int) ^ up) / (B : Int) ^ (i + up) = c
  generalize v / (B : Int) ^ (i + up) = p
  generalize y / (B : Int) ^ i = q
  have h1 := Int.emod_add_mul_ediv p B
  have h2 := Int.emod_add_mul_ediv q B
  have h3 : c + (p + f * q) = (p % B + c + f * (q % B)) + B * (p / B + f * (q / B)) := by
    generalize p / (B : Int) = a at *
    generalize q / (B : Int) = b at *
    generalize p % (B : Int) = a' at *
    generalize q % (B : Int) = b' at *
    subst h1; subst h2; grind
  rw [h3, Int.add_mul_emod_self_left]

theorem cr_bd {v f y : Int} (hf : -1000000000 < f) (hf2 : f < 1000000000) (up i : Nat) : -1000000000 < cr v f y up i ∧ cr v f y up i < 1000000000 := by
  induction i with
  | zero => rw [cr_zero]; decide
  | succ i ih =>
    rw [cr_succ]
    have h1 := Int.emod_nonneg (v / (B : Int) ^ (i + up)) (b := B) (by decide)
    have h2 : v / (B : Int) ^ (i + up) % B < 1000000000 := Int.emod_lt_of_pos (v / (B : Int) ^ (i + up)) (b := B) (by decide)
    have h3 := Int.emod_nonneg (y / (B : Int) ^ i) (b := B) (by decide)
    have h4 : y / (B : Int) ^ i % B < 1000000000 := Int.emod_lt_of_pos (y / (B : Int) ^ i) (b := B) (by decide)
    generalize v / (B : Int) ^ (i + up) % B = a at *
    generalize y / (B : Int) ^ i % B = d at *
    generalize cr v f y up i = c at *
    have h5 : f * d ≤ 999999999 * 999999999 := by
      by_cases h0 : 0 ≤ f
      · exact Int.mul_le_mul (by omega) (by omega) h3 (by decide)
      · have := Int.mul_nonneg (a := -f) (b := d) (by omega) h3
        have e : -f * d = -(f * d) := by grind
        omega
    have h6 : -(999999999 * 999999999) ≤ f * d := by
      by_cases h0 : 0 ≤ f
      · have := Int.mul_nonneg h0 h3
        omega
      · have := Int.mul_le_mul (a := -f) (b := d) (c := 999999999) (d := 999999999) (by omega) (by omega) h3 (by decide)
        have e : -f * d = -(f * d) := by grind
        omega
    generalize f * d = z at *
    have eB : (B : Int) = 1000000000 := rfl
    rw [eB]
    omega

/-- behind the last word with nothing left to carry all words are those of the sum -/
theorem cr_done {v f y : Int} {up i : Nat} (hy0 : 0 ≤ y) (hy : y < (B : Int) ^ i) (h0 : cr v f y up i = 0) (j : Nat) (hj : i + up ≤ j) :
    (v + f * y * (B : Int) ^ up) / (B : Int) ^ j = v / (B : Int) ^ j := by
  unfold cr at h0
  rw [Int.emod_eq_of_lt hy0 hy] at h0
  have hP := iB_pos (i + up)
  generalize hX : v % (B : Int) ^ (i + up) + f * y * (B : Int) ^ up = X at h0
  have h1 : 0 ≤ X := by
    refine Classical.byContradiction fun h => ?_
    have := Int.ediv_neg_of_neg_of_pos (a := X) (by omega) hP; omega
  have h2 : X < (B : Int) ^ (i + up) := by
    refine Classical.byContradiction fun h => ?_
    have := (Int.le_ediv_iff_mul_le hP (a := 1) (b := X)).2 (by omega)
    omega
  have e : (B : Int) ^ j = (B : Int) ^ (i + up) * (B : Int) ^ (j - (i + up)) := by rw [← Int.pow_add]; congr 1; omega
  have hv := Int.emod_add_mul_ediv v ((B : Int) ^ (i + up))
  have hsum : v + f * y * (B : Int) ^ up = X + v / (B : Int) ^ (i + up) * (B : Int) ^ (i + up) := by
    rw [← hX]
    generalize v / (B : Int) ^ (i + up) = q at *
    generalize v % (B : Int) ^ (i + up) = r at *
    grind
  rw [e, ← Int.ediv_ediv_of_nonneg (by omega), ← Int.ediv_ediv_of_nonneg (by omega), hsum, Int.add_mul_ediv_right _ _ (by omega), Int.ediv_eq_zero_of_lt h1 h2, Int.zero_add]

/-- something is left to carry only inside the room of the sum -/
theorem cr_room {v f y : Int} {up i R : Nat} (hv0 : 0 ≤ v) (hv : v < (B : Int) ^ R) (hy0 : 0 ≤ y) (hy : y < (B : Int) ^ i) (ht : 0 ≤ v + f * y * (B : Int) ^ up) (htR : v + f * y * (B : Int) ^ up < (B : Int) ^ R)
    (hR : R ≤ i + up) : cr v f y up i = 0 := by
  unfold cr
  have hle : (B : Int) ^ R ≤ (B : Int) ^ (i + up) := by rw [iB, iB]; exact Int.ofNat_le.2 (Nat.pow_le_pow_right (by decide) hR)
  rw [Int.emod_eq_of_lt hy0 hy, Int.emod_eq_of_lt hv0 (by omega)]
  exact Int.ediv_eq_zero_of_lt ht (by omega)
end Wd

namespace Wd
open Go.Lib Dec

/-- nine digits -/
def pad (d : Nat) : List UInt8 := List.replicate (9 - (decDigits d).length) 48 ++ decDigits d
theorem dec9 {d : Nat} (h : d < B) : (decDigits d).length ≤ 9 := (dec_len d 9 (by omega)).2 (by unfold B at h; omega)
theorem dec_len_pos (d : Nat) : 1 ≤ (decDigits d).length := by
  have := dec_ne_nil d
  cases h : decDigits d with
  | nil => exact (this h).elim
  | cons a t => simp
theorem pad_length {d : Nat} (h : d < B) : (pad d).length = 9 := by unfold pad; have := dec9 h; simp; omega
theorem vd_rep (k : Nat) : vd (List.replicate k 48) = 0 := by
  induction k with
  | zero => rfl
  | succ k ih => rw [List.replicate_succ, vd_cons, ih]; simp
theorem vd_pad (d : Nat) : vd (pad d) = d := by unfold pad; rw [vd_append, vd_rep, vd_dec]; omega
theorem digs_rep (k : Nat) : digs (List.replicate k 48) := fun c h => by
  have := (List.mem_replicate.1 h).2; subst this; unfold dig; decide
theorem digs_pad (d : Nat) : digs (pad d) := digs_append.2 ⟨digs_rep _, dec_digs d⟩

theorem lead_append {l k : List UInt8} (h : l ≠ []) (hl : lead l) (h0 : vd l ≠ 0) : lead (l ++ k) := by
  intro c t e hc
  cases l with
  | nil => exact (h rfl).elim
  | cons a s =>
    cases e
    have := hl c s rfl hc
    subst this; subst hc
    exact (h0 (by simp [vd])).elim
/-- the last nine digits -/
theorem dec_step {a d : Nat} (ha : a ≠ 0) (hd : d < B) : decDigits (a * B + d) = decDigits a ++ pad d := by
  have hv : vd (decDigits a ++ pad d) = a * B + d := by
    rw [vd_append, vd_dec, vd_pad, pad_length hd]; rfl
  rw [← hv]
  refine dec_of_vd (by have := dec_ne_nil a; simp [this]) (digs_append.2 ⟨dec_digs a, digs_pad d⟩) (lead_append (dec_ne_nil a) (dec_lead a) (by rw [vd_dec]; exact ha))

/-- what text has written when the words from i on are written -/
theorem text_step {v i : Nat} (h : v / B ^ (i + 1) ≠ 0) : decDigits (v / B ^ i) = decDigits (v / B ^ (i + 1)) ++ pad (wd v i) := by
  have e : v / B ^ i = v / B ^ (i + 1) * B + wd v i := by
    unfold wd
    rw [Nat.pow_succ, ← Nat.div_div_eq_div_mul]
    have := Nat.div_add_mod (v / B ^ i) B
    rw [Nat.mul_comm] at this; exact this.symm
  rw [e]; exact dec_step h (wd_lt v i)

/-- read: the last nine digits of what is left -/
theorem vd_take (l : List UInt8) (k : Nat) : vd l = vd (l.take k) * 10 ^ (l.drop k).length + vd (l.drop k) := by
  rw [← vd_append, List.take_append_drop]
theorem read_word {l : List UInt8} (hd : digs l) (k : Nat) (hk : k + 9 = l.length) : vd (l.drop k) = vd l % B ∧ vd (l.take k) = vd l / B := by
  have h1 := vd_take l k
  have h2 : (l.drop k).length = 9 := by simp; omega
  have h3 := vd_lt (l.drop k) (fun c hc => hd c (List.mem_of_mem_drop hc))
  rw [h2] at h1 h3
  have e : 10 ^ 9 = B := rfl
  rw [e] at h1 h3
  rw [h1]
  constructor
  · rw [Nat.mul_comm, Nat.mul_add_mod, Nat.mod_eq_of_lt h3]
  · rw [Nat.mul_comm, Nat.mul_add_div B_pos, Nat.div_eq_of_lt h3]; omega

/-! times -/
theorem times_step (x y i : Nat) : (x : Int) * (y % B ^ i : Nat) + (wd y i : Int) * x * (B : Int) ^ i = x * (y % B ^ (i + 1) : Nat) := by
  rw [mod_succ, iB]
  simp only [Int.natCast_add, Int.natCast_mul]
  grind

/-! divided -/
theorem div_step (x y i : Nat) (hy : 0 < y) :
    x / B ^ i / y = (x / B ^ (i + 1) / y) * B + (x / B ^ (i + 1) % y * B + wd x i) / y ∧
    x / B ^ i % y = (x / B ^ (i + 1) % y * B + wd x i) % y ∧ (x / B ^ (i + 1) % y * B + wd x i) / y < B := by
  have e : x / B ^ i = x / B ^ (i + 1) * B + wd x i := by
    unfold wd
    rw [Nat.pow_succ, ← Nat.div_div_eq_div_mul]
    have := Nat.div_add_mod (x / B ^ i) B
    rw [Nat.mul_comm] at this; exact this.symm
  have h1 := Nat.div_add_mod (x / B ^ (i + 1)) y
  have hr := Nat.mod_lt (x / B ^ (i + 1)) hy
  have hw := wd_lt x i
  rw [e]
  generalize x / B ^ (i + 1) = X at *
  generalize X / y = q at *
  generalize X % y = r at *
  generalize wd x i = d at *
  have e2 : X * B + d = (r * B + d) + y * (q * B) := by rw [← h1, Nat.add_mul, Nat.mul_assoc]; omega
  rw [e2]
  refine ⟨?_, ?_, ?_⟩
  · rw [Nat.add_mul_div_left _ _ hy]; omega
  · rw [Nat.add_mul_mod_self_left]
  · rw [Nat.div_lt_iff_lt_mul hy]
    have : (r + 1) * B ≤ y * B := Nat.mul_le_mul_right _ hr
    rw [Nat.add_mul] at this
    rw [Nat.mul_comm B y]; omega

/-- the two top words of a rest over the top word of a divisor are no over-estimate -/
theorem est_le {r y a b k n : Nat} (hr : a * B ^ n ≤ r) (hy : y ≤ b * B ^ n) (hk : k * b ≤ a) : k * y ≤ r :=
  calc k * y ≤ k * (b * B ^ n) := Nat.mul_le_mul_left _ hy
    _ = k * b * B ^ n := by rw [Nat.mul_assoc]
    _ ≤ a * B ^ n := Nat.mul_le_mul_right _ hk
    _ ≤ r := hr

/-- the words of a product with B and one word more -/
theorem wd_shift (r d j : Nat) (hd : d < B) : wd (r * B + d) (j + 1) = wd r j := by
  unfold wd
  rw [Nat.pow_succ, Nat.mul_comm (B ^ j) B, ← Nat.div_div_eq_div_mul]
  congr 2
  rw [Nat.mul_comm, Nat.mul_add_div B_pos, Nat.div_eq_of_lt hd]; omega
theorem wd_shift0 (r d : Nat) (hd : d < B) : wd (r * B + d) 0 = d := by
  unfold wd
  rw [Nat.pow_zero, Nat.div_one, Nat.mul_comm, Nat.mul_add_mod, Nat.mod_eq_of_lt hd]
theorem nw_shift {r d : Nat} (hd : d < B) : nw (r * B + d) ≤ nw r + 1 := by
  rw [nw_le, Nat.pow_succ]
  have := lt_nw r
  have : (r + 1) * B ≤ B ^ nw r * B := Nat.mul_le_mul_right _ this
  rw [Nat.add_mul] at this; omega
end Wd

namespace Rt
open Go.Lib

/-- the text of a rational number -/
def rtx (q : Rat) : List UInt8 := if q.den = 1 then itoa q.num else itoa q.num ++ 47 :: decDigits q.den

theorem add_eq (a b : Rat) : a + b = Rat.divInt (a.num * b.den + b.num * a.den) (a.den * b.den) := by
  have h := Rat.divInt_add_divInt a.num b.num (d₁ := a.den) (d₂ := b.den) (by have := a.den_nz; omega) (by have := b.den_nz; omega)
  rwa [Rat.num_divInt_den, Rat.num_divInt_den] at h
theorem sub_eq (a b : Rat) : a - b = Rat.divInt (a.num * b.den - b.num * a.den) (a.den * b.den) := by
  have h := Rat.divInt_sub_divInt a.num b.num (d₁ := a.den) (d₂ := b.den) (by have := a.den_nz; omega) (by have := b.den_nz; omega)
  rwa [Rat.num_divInt_den, Rat.num_divInt_den] at h
theorem mul_eq (a b : Rat) : a * b = Rat.divInt (a.num * b.num) (a.den * b.den) := by
  have h := Rat.divInt_mul_divInt a.num b.num (d₁ := a.den) (d₂ := b.den)
  rwa [Rat.num_divInt_den, Rat.num_divInt_den] at h
theorem div_eq (a b : Rat) : a / b = Rat.divInt (a.num * b.den) (a.den * b.num) := by
  have hb : b⁻¹ = Rat.divInt b.den b.num := by
    have := Rat.inv_divInt b.num b.den
    rwa [Rat.num_divInt_den] at this
  have h := Rat.divInt_mul_divInt a.num b.den (d₁ := a.den) (d₂ := b.num)
  rwa [Rat.num_divInt_den, ← hb, ← Rat.div_def] at h

/-- the divisor with the sign of the denominator -/
def gs (num den : Int) : Int := if den < 0 then - (Int.gcd num den : Int) else Int.gcd num den

theorem gcd_pos {num den : Int} (h : den ≠ 0) : 0 < Int.gcd num den := by
  have := Nat.gcd_pos_of_pos_right num.natAbs (n := den.natAbs) (by omega)
  exact this

theorem low_num {num den : Int} (h : den ≠ 0) : num / gs num den = (Rat.divInt num den).num := by
  rw [Rat.num_divInt, Int.gcd_comm den num]
  unfold gs
  have hg := gcd_pos (num := num) h
  split
  · rename_i h1
    rw [Int.sign_eq_neg_one_of_neg h1, Int.ediv_neg]
    have := Int.neg_ediv_of_dvd (a := num) (b := Int.gcd num den) (Int.gcd_dvd_left _ _)
    rw [← this]
    congr 1; omega
  · rename_i h1
    rw [Int.sign_eq_one_of_pos (by omega)]
    congr 1; omega
theorem low_den {num den : Int} (h : den ≠ 0) : den / gs num den = (Rat.divInt num den).den := by
  rw [Rat.den_divInt, if_neg h, Int.gcd_comm den num]
  unfold gs
  have hg := gcd_pos (num := num) h
  split
  · rename_i h1
    rw [Int.ediv_neg, ← Int.neg_ediv_of_dvd (Int.gcd_dvd_right _ _), Int.natCast_ediv]
    congr 1; omega
  · rename_i h1
    rw [Int.natCast_ediv]
    congr 1; omega

theorem num_le {num den : Int} (h : den ≠ 0) : (Rat.divInt num den).num.natAbs ≤ num.natAbs := by
  rw [Rat.num_divInt, Int.natAbs_ediv_of_dvd]
  · refine Nat.le_trans (Nat.div_le_self _ _) ?_
    rw [Int.natAbs_mul]
    rcases Int.lt_trichotomy den 0 with h1 | h1 | h1
    · rw [Int.sign_eq_neg_one_of_neg h1]; simp
    · exact (h h1).elim
    · rw [Int.sign_eq_one_of_pos h1]; simp
  · exact Int.dvd_mul_of_dvd_right (Int.gcd_dvd_right _ _)
theorem den_le {num den : Int} (h : den ≠ 0) : (Rat.divInt num den).den ≤ den.natAbs := by
  rw [Rat.den_divInt, if_neg h]
  exact Nat.div_le_self _ _

theorem num_sign (q : Rat) : (q < 0 ↔ q.num < 0) ∧ (0 < q ↔ 0 < q.num) ∧ (q = 0 ↔ q.num = 0) := by
  have h3 : q = 0 ↔ q.num = 0 := Rat.num_eq_zero.symm
  have h1 : 0 ≤ q ↔ 0 ≤ q.num := Rat.num_nonneg.symm
  refine ⟨?_, ?_, h3⟩
  · constructor
    · intro h; have : ¬ 0 ≤ q := by grind
      rw [h1] at this; omega
    · intro h; have : ¬ 0 ≤ q.num := by omega
      rw [← h1] at this; grind
  · constructor
    · intro h; have a1 := h1.1 (by grind); have : ¬ q = 0 := by grind
      rw [h3] at this; omega
    · intro h; have a1 := h1.2 (by omega); have : ¬ q = 0 := by rw [h3]; omega
      grind
end Rt

namespace Rt

/-- q is some n / D with |n| at most M -/
def Fc (D M : Nat) (q : Rat) : Prop := 0 < D ∧ ∃ n : Int, q * (D : Rat) = (n : Rat) ∧ n.natAbs ≤ M

/-- numerator and denominator are less than 10^N -/
def Sm (N : Nat) (q : Rat) : Prop := q.num.natAbs < 10 ^ N ∧ q.den < 10 ^ N

theorem Fc.mono {D M M' : Nat} {q : Rat} (h : Fc D M q) (hM : M ≤ M') : Fc D M' q := by
  obtain ⟨h0, n, e, hn⟩ := h
  exact ⟨h0, n, e, by omega⟩
theorem Fc.int (n : Int) {M : Nat} (h : n.natAbs ≤ M) : Fc 1 M (n : Rat) := ⟨by omega, n, by grind, h⟩
theorem Fc.lift {D M : Nat} {q : Rat} (h : Fc D M q) (E : Nat) (hE : 0 < E) : Fc (D * E) (M * E) q := by
  obtain ⟨h0, n, e, hn⟩ := h
  refine ⟨Nat.mul_pos h0 hE, n * E, ?_, ?_⟩
  · rw [Rat.natCast_mul, Rat.intCast_mul, ← e]
    have : ((E : Int) : Rat) = (E : Rat) := Rat.intCast_natCast E
    rw [this]; grind
  · rw [Int.natAbs_mul]; simpa using Nat.mul_le_mul_right E hn
theorem Fc.add {D M M' : Nat} {p q : Rat} (h : Fc D M p) (k : Fc D M' q) : Fc D (M + M') (p + q) := by
  obtain ⟨h0, n, e, hn⟩ := h
  obtain ⟨_, m, e', hm⟩ := k
  exact ⟨h0, n + m, by rw [Rat.intCast_add]; grind, by omega⟩
theorem Fc.neg {D M : Nat} {p : Rat} (h : Fc D M p) : Fc D M (-p) := by
  obtain ⟨h0, n, e, hn⟩ := h
  exact ⟨h0, -n, by rw [Rat.intCast_neg]; grind, by omega⟩
theorem Fc.sub {D M M' : Nat} {p q : Rat} (h : Fc D M p) (k : Fc D M' q) : Fc D (M + M') (p - q) := by
  rw [Rat.sub_eq_add_neg]; exact h.add k.neg
theorem Fc.mul {D M D' M' : Nat} {p q : Rat} (h : Fc D M p) (k : Fc D' M' q) : Fc (D * D') (M * M') (p * q) := by
  obtain ⟨h0, n, e, hn⟩ := h
  obtain ⟨h0', m, e', hm⟩ := k
  refine ⟨Nat.mul_pos h0 h0', n * m, ?_, ?_⟩
  · rw [Rat.natCast_mul, Rat.intCast_mul, ← e, ← e']; grind
  · rw [Int.natAbs_mul]; exact Nat.mul_le_mul hn hm

theorem Fc.eq {D M : Nat} {q : Rat} (h : Fc D M q) : ∃ n : Int, q = Rat.divInt n D ∧ n.natAbs ≤ M := by
  obtain ⟨h0, n, e, hn⟩ := h
  refine ⟨n, ?_, hn⟩
  rw [Rat.divInt_eq_div, ← e]
  have : ((D : Int) : Rat) = (D : Rat) := Rat.intCast_natCast D
  have hD : (D : Rat) ≠ 0 := by
    intro h; have := Rat.natCast_eq_zero_iff.1 h; omega
  rw [this]; grind
theorem Fc.sm {D M N : Nat} {q : Rat} (h : Fc D M q) (hD : D < 10 ^ N) (hM : M < 10 ^ N) : Sm N q := by
  have h0 := h.1
  obtain ⟨n, rfl, hn⟩ := h.eq
  have h1 := num_le (num := n) (den := D) (by omega)
  have h2 := den_le (num := n) (den := D) (by omega)
  exact ⟨by omega, Nat.lt_of_le_of_lt h2 (by simpa using hD)⟩
theorem Sm.mono {N N' : Nat} {q : Rat} (h : Sm N q) (hN : N ≤ N') : Sm N' q :=
  ⟨Nat.lt_of_lt_of_le h.1 (Nat.pow_le_pow_right (by omega) hN), Nat.lt_of_lt_of_le h.2 (Nat.pow_le_pow_right (by omega) hN)⟩
theorem Sm.fc {N : Nat} {q : Rat} (h : Sm N q) : Fc q.den (10 ^ N) q := by
  refine ⟨q.den_pos, q.num, ?_, by have := h.1; omega⟩
  have h := Rat.num_divInt_den q
  rw [Rat.divInt_eq_div] at h
  have h2 : ((q.den : Int) : Rat) = (q.den : Rat) := Rat.intCast_natCast q.den
  rw [h2] at h
  have hD : (q.den : Rat) ≠ 0 := by
    intro h; have := Rat.natCast_eq_zero_iff.1 h; have := q.den_nz; omega
  generalize (q.den : Rat) = d at *
  rw [← h]; grind
theorem Fc.same {D M : Nat} {p q : Rat} (h : Fc D M p) (e : p = q) : Fc D M q := e ▸ h
/-- a quotient -/
theorem Fc.over {D M : Nat} {p : Rat} (h : Fc D M p) {F : Nat} (hF : 0 < F) : Fc (D * F) M (p / (F : Rat)) := by
  obtain ⟨h0, n, e, hn⟩ := h
  refine ⟨Nat.mul_pos h0 hF, n, ?_, hn⟩
  have hD : (F : Rat) ≠ 0 := by
    intro h; have := Rat.natCast_eq_zero_iff.1 h; omega
  rw [Rat.natCast_mul, ← e]; grind
end Rt
