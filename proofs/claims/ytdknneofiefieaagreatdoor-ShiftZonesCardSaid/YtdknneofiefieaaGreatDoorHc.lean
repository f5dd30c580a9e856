import Derived.WalkKit
import Derived.RegionTactic
import Derived.Below
import Derived.Test.YtdknneofiefieaaGreatDoorGz
import Derived.Deep.RegionHeld3
import Derived.Test.YtdknneofiefieaaGreatDoorHb

namespace Go.RegT
open Go Go.RowKit

variable {P : Program} {ops : Array Oper} {Q : Exit → Act → World → Prop} {T : Nat}

/-- j waits for i, or for one that waits for i -/
def anc (ops : Array Oper) : Nat → Nat → Nat → Bool
  | 0, _, _ => false
  | f + 1, j, i => match ops[j]? with
    | none => false
    | some o => o.after.toList.any fun e => Region.binds .any e && (e.on == i || anc ops f e.on i)
/-- all edges that bind go back; from T on each operation waits (at last) for all before it -/
def okEdges (ops : Array Oper) (T : Nat) : Bool :=
  (List.range ops.size).all fun j => match ops[j]? with
    | none => true
    | some o => (o.after.all fun e => !Region.binds .any e || decide (e.on < j)) && (decide (j < T) || (List.range j).all fun i => anc ops ops.size j i)
def Cl (ops : Array Oper) (listed : Array Bool) : Prop := ∀ j o, ops[j]? = some o → listed.getD j false = true → ∀ e ∈ o.after, Region.binds .any e = true → listed.getD e.on false = true
theorem anc_ready {listed : Array Bool} (hc : Cl ops listed) : ∀ (f j i : Nat) (o : Oper), ops[j]? = some o → (∀ e ∈ o.after, Region.binds .any e = true → listed.getD e.on false = true) → anc ops f j i = true → listed.getD i false = true := by
  intro f
  induction f with
  | zero => intro j i o _ _ h; cases h
  | succ f ih =>
    intro j i o ho hr h
    unfold anc at h
    simp only [ho] at h
    obtain ⟨e, he, h4⟩ := List.any_eq_true.1 h
    simp only [Bool.and_eq_true, Bool.or_eq_true, beq_iff_eq] at h4
    have hl := hr e (Array.mem_toList_iff.1 he) h4.1
    rcases h4.2 with h5 | h5
    · rw [← h5]; exact hl
    · cases hoe : ops[e.on]? with
      | none =>
        cases f with
        | zero => cases h5
        | succ f => unfold anc at h5; simp only [hoe] at h5; cases h5
      | some oe => exact ih e.on i oe hoe (hc e.on oe hoe hl) h5
/-- the operations before T write different slots, all of them within the frame -/
def okDsts (ops : Array Oper) (T n : Nat) : Bool :=
  (List.range T).all fun i => match (ops[i]?).bind (·.dst) with
    | none => true
    | some d => decide (d < n) && (List.range T).all fun j => decide (i = j) || (ops[j]?).bind (·.dst) != some d

theorem okEdges_back {T j : Nat} {o : Oper} (h : okEdges ops T = true) (ho : ops[j]? = some o) : ∀ e ∈ o.after, Region.binds .any e = true → e.on < j := by
  intro e he hb
  have hj : j < ops.size := (Array.getElem?_eq_some_iff.1 ho).1
  have := List.all_eq_true.1 h j (List.mem_range.2 hj)
  simp only [ho, Bool.and_eq_true] at this
  have h1 := Array.all_eq_true_iff_forall_mem.1 this.1 e he
  simp only [hb, Bool.not_true, Bool.false_or, decide_eq_true_eq] at h1
  exact h1
theorem okEdges_tail {T j : Nat} {o : Oper} {listed : Array Bool} (h : okEdges ops T = true) (hc : Cl ops listed) (ho : ops[j]? = some o) (hT : T ≤ j) (hall : ∀ e ∈ o.after, Region.binds .any e = true → listed.getD e.on false = true) : ∀ i, i < j → listed.getD i false = true := by
  intro i hi
  have hj : j < ops.size := (Array.getElem?_eq_some_iff.1 ho).1
  have := List.all_eq_true.1 h j (List.mem_range.2 hj)
  simp only [ho, Bool.and_eq_true, Bool.or_eq_true, decide_eq_true_eq] at this
  have h2 := this.2.resolve_left (by omega)
  exact anc_ready hc _ j i o ho hall (List.all_eq_true.1 h2 i (List.mem_range.2 hi))
theorem okDsts_lt {T n i d : Nat} {o : Oper} (h : okDsts ops T n = true) (hi : i < T) (ho : ops[i]? = some o) (hd : o.dst = some d) : d < n := by
  have := List.all_eq_true.1 h i (List.mem_range.2 hi)
  simp only [ho, Option.bind_some, hd, Bool.and_eq_true, decide_eq_true_eq] at this
  exact this.1
theorem okDsts_ne {T n i j d : Nat} {o o' : Oper} (h : okDsts ops T n = true) (hi : i < T) (ho : ops[i]? = some o) (hd : o.dst = some d) (hj : j < T) (ho' : ops[j]? = some o') (hne : i ≠ j) : o'.dst ≠ some d := by
  have := List.all_eq_true.1 h i (List.mem_range.2 hi)
  simp only [ho, Option.bind_some, hd, Bool.and_eq_true] at this
  have h2 := List.all_eq_true.1 this.2 j (List.mem_range.2 hj)
  simp only [ho', Option.bind_some, Bool.or_eq_true, decide_eq_true_eq, bne_iff_ne] at h2
  exact h2.resolve_left hne

/-- the tail goes in its order -/
theorem tail_any (h : okEdges ops T = true) : ∀ (m k : Nat), T ≤ k → k + m = ops.size → ∀ (fuel : Nat), m ≤ fuel → ∀ (listed : Array Bool) (a : Act) (w : World), listed.size = ops.size → (∀ i, i < ops.size → listed.getD i false = decide (i < k)) →
    wpOps P ops Q (List.range' k m) a w → wpAny P .any ops Q fuel listed a w := by
  intro m
  induction m with
  | zero =>
    intro k hk hs fuel _ listed a w hz hl hw
    have hr : Region.ready .any ops listed = [] := by
      rw [List.eq_nil_iff_forall_not_mem]
      intro j hj
      obtain ⟨h0, o, ho, _⟩ := mem_ready.1 hj
      have hlt : j < ops.size := (Array.getElem?_eq_some_iff.1 ho).1
      have := hl j hlt
      rw [decide_eq_true (by omega)] at this
      simp [hz, hlt] at h0 this
      rw [h0] at this; cases this
    cases fuel with
    | zero => exact ⟨hr, hw⟩
    | succ fuel => exact ⟨fun _ => hw, fun i hi => by rw [hr] at hi; cases hi⟩
  | succ m ih =>
    intro k hk hs fuel hf listed a w hz hl hw
    obtain ⟨fuel, rfl⟩ : ∃ f, fuel = f + 1 := ⟨fuel - 1, by omega⟩
    have hklt : k < ops.size := by omega
    have hko : ops[k]? = some ops[k] := Array.getElem?_eq_getElem hklt
    have hkr : k ∈ Region.ready .any ops listed := by
      rw [mem_ready]
      refine ⟨?_, _, hko, fun e he hb => ?_⟩
      · have := hl k hklt
        rw [decide_eq_false (by omega)] at this
        simp [hz, hklt] at this ⊢; exact this
      · have hlt := okEdges_back h hko e he hb
        rw [hl e.on (by omega)]; exact decide_eq_true hlt
    have honly : ∀ j ∈ Region.ready .any ops listed, j = k := by
      intro j hj
      obtain ⟨h0, o, ho, hall⟩ := mem_ready.1 hj
      have hlt : j < ops.size := (Array.getElem?_eq_some_iff.1 ho).1
      have h1 : ¬ j < k := by
        intro hjk
        have := hl j hlt
        rw [decide_eq_true hjk] at this
        simp [hz, hlt] at h0 this
        rw [h0] at this; cases this
      refine Classical.byContradiction fun hne => ?_
      have hcl : Cl ops listed := fun x ox hox hlx e he hb => by
        have hxs : x < ops.size := (Array.getElem?_eq_some_iff.1 hox).1
        rw [hl x hxs] at hlx
        have hxk := of_decide_eq_true hlx
        have := okEdges_back h hox e he hb
        rw [hl e.on (by omega)]; exact decide_eq_true (by omega)
      have h2 := okEdges_tail h hcl ho (by omega) hall k (by omega)
      rw [hl k hklt, decide_eq_false (by omega)] at h2
      cases h2
    refine ⟨fun hr => (by rw [hr] at hkr; cases hkr), fun j hj => ?_⟩
    obtain rfl := honly j hj
    rw [List.range'_succ, wpOps_cons] at hw
    refine wpOp_mono (fun a' w' h' => ?_) hw
    refine ih (j + 1) (by omega) (by omega) fuel (by omega) _ a' w' (by simpa using hz) (fun i hi => ?_) h'
    by_cases hij : j = i
    · subst hij
      rw [decide_eq_true (by omega)]
      simp [hz, hi]
    · have := hl i hi
      simp only [Array.getD_eq_getD_getElem?] at this ⊢
      rw [Array.getElem?_setIfInBounds_ne hij, this]
      exact decide_eq_decide.2 (by omega)

/-- how many are not listed -/
def left (listed : Array Bool) : Nat := (listed.toList.filter (! ·)).length
theorem left_set {listed : Array Bool} {i : Nat} (h : listed.getD i true = false) : left (listed.setIfInBounds i true) < left listed := by
  unfold left
  rw [Array.toList_setIfInBounds]
  have hi : listed.toList[i]? = some false := by
    rw [Array.getElem?_toList]
    cases h1 : listed[i]? with
    | none => simp [h1] at h
    | some b => simp [h1] at h; rw [h]
  generalize listed.toList = l at *
  clear h
  induction l generalizing i with
  | nil => simp at hi
  | cons x t ih =>
    cases i with
    | zero => simp at hi; subst hi; simp
    | succ i =>
      simp at hi
      have := ih hi
      simp only [List.set_cons_succ, List.filter_cons]
      split <;> simp <;> omega

/-- every operation before T keeps I; behind them the tail -/
theorem wpAny_inv {T : Nat} (h : okEdges ops T = true) (hT : T ≤ ops.size) (I : Array Bool → Act → World → Prop)
    (hstep : ∀ i, i < T → ∀ listed a w, i ∈ Region.ready .any ops listed → listed.size = ops.size → I listed a w → wpOp P ops Q i (I (listed.setIfInBounds i true)) a w)
    (htail : ∀ listed a w, (∀ i, i < T → listed.getD i false = true) → I listed a w → wpOps P ops Q (List.range' T (ops.size - T)) a w) :
    ∀ (fuel : Nat) (listed : Array Bool) (a : Act) (w : World), listed.size = ops.size → Cl ops listed → (∀ i, T ≤ i → i < ops.size → listed.getD i false = false) → left listed ≤ fuel → I listed a w → wpAny P .any ops Q fuel listed a w := by
  intro fuel
  induction fuel with
  | zero =>
    intro listed a w hz hcl hl hf hI
    have hall : ∀ i, i < ops.size → listed.getD i false = true := by
      intro i hi
      cases hv : listed.getD i false with
      | true => rfl
      | false =>
        have h1 : listed.getD i true = false := by simp [hz, hi] at hv ⊢; exact hv
        have := left_set h1
        omega
    have hTe : T = ops.size := by
      refine Classical.byContradiction fun hne => ?_
      have := hl T (Nat.le_refl _) (by omega)
      rw [hall T (by omega)] at this; cases this
    refine tail_any h (ops.size - T) T (Nat.le_refl _) (by omega) 0 (by omega) listed a w hz (fun i hi => ?_) (htail listed a w (fun i hi => hall i (by omega)) hI)
    rw [hall i hi, decide_eq_true (by omega)]
  | succ fuel ih =>
    intro listed a w hz hcl hl hf hI
    by_cases hall : ∀ i, i < T → listed.getD i false = true
    · have hcount : ops.size - T ≤ fuel + 1 := by
        refine Nat.le_trans ?_ hf
        -- the unlisted ones are those from T on
        have : ∀ (m : Nat) (l : List Bool), l.length = T + m → (∀ i, T ≤ i → i < T + m → l[i]? = some false) → m ≤ (l.filter (! ·)).length := by
          intro m l hlen hfal
          have h1 : (l.drop T).filter (! ·) = l.drop T := by
            rw [List.filter_eq_self]
            intro x hx
            obtain ⟨k, hk, rfl⟩ := List.mem_iff_getElem.1 hx
            rw [List.length_drop] at hk
            have := hfal (T + k) (by omega) (by omega)
            rw [List.getElem_drop]
            rw [List.getElem?_eq_getElem (by omega)] at this
            simp at this
            simp [this]
          have h2 : (l.filter (! ·)).length ≥ ((l.drop T).filter (! ·)).length := by
            conv => lhs; rw [← List.take_append_drop T l]
            rw [List.filter_append, List.length_append]; omega
          rw [h1, List.length_drop] at h2
          omega
        unfold left
        refine this (ops.size - T) listed.toList (by simp [hz]; omega) (fun i h1 h2 => ?_)
        have := hl i h1 (by omega)
        rw [Array.getElem?_toList]
        have hi : i < listed.size := by omega
        simp [hi] at this ⊢; exact this
      refine tail_any h (ops.size - T) T (Nat.le_refl _) (by omega) (fuel + 1) hcount listed a w hz (fun i hi => ?_) (htail listed a w hall hI)
      by_cases hiT : i < T
      · rw [hall i hiT, decide_eq_true hiT]
      · rw [hl i (by omega) hi, decide_eq_false hiT]
    · -- somebody before T is ready
      have hex : ∃ i, i < T ∧ listed.getD i false = false := by
        refine Classical.byContradiction fun hn => hall fun i hi => ?_
        cases hv : listed.getD i false with
        | true => rfl
        | false => exact (hn ⟨i, hi, hv⟩).elim
      have hmin : ∃ i, (i < T ∧ listed.getD i false = false) ∧ ∀ j, j < i → ¬ (j < T ∧ listed.getD j false = false) := by
        obtain ⟨i, hi⟩ := hex
        induction i using Nat.strongRecOn with
        | _ i ihi =>
          by_cases hs : ∃ j, j < i ∧ (j < T ∧ listed.getD j false = false)
          · obtain ⟨j, hj, hjp⟩ := hs; exact ihi j hj hjp
          · exact ⟨i, hi, fun j hj hp => hs ⟨j, hj, hp⟩⟩
      obtain ⟨i, ⟨hiT, hif⟩, hbelow⟩ := hmin
      have hilt : i < ops.size := by omega
      have hir : i ∈ Region.ready .any ops listed := by
        rw [mem_ready]
        refine ⟨by simp [hz, hilt] at hif ⊢; exact hif, _, Array.getElem?_eq_getElem hilt, fun e he hb => ?_⟩
        have hlt := okEdges_back h (Array.getElem?_eq_getElem hilt) e he hb
        cases hv : listed.getD e.on false with
        | true => rfl
        | false => exact (hbelow e.on hlt ⟨by omega, hv⟩).elim
      refine ⟨fun hr => (by rw [hr] at hir; cases hir), fun j hj => ?_⟩
      obtain ⟨hj0, o, ho, hjall⟩ := mem_ready.1 hj
      have hjlt : j < ops.size := (Array.getElem?_eq_some_iff.1 ho).1
      have hjT : j < T := by
        refine Classical.byContradiction fun hn => ?_
        have := okEdges_tail h hcl ho (by omega) hjall i (by omega)
        rw [hif] at this; cases this
      refine wpOp_mono (fun a' w' hI' => ?_) (hstep j hjT listed a w hj hz hI)
      have up : ∀ k, listed.getD k false = true → (listed.setIfInBounds j true).getD k false = true := by
        intro k hk
        by_cases hjk : j = k
        · subst hjk; simp [hz, hjlt]
        · simp only [Array.getD_eq_getD_getElem?] at hk ⊢
          rw [Array.getElem?_setIfInBounds_ne hjk]; exact hk
      have hcl2 : Cl ops (listed.setIfInBounds j true) := fun x ox hox hlx e he hb => by
        by_cases hjx : j = x
        · subst hjx
          rw [ho] at hox
          cases hox
          exact up _ (hjall e he hb)
        · refine up _ (hcl x ox hox ?_ e he hb)
          simp only [Array.getD_eq_getD_getElem?] at hlx ⊢
          rwa [Array.getElem?_setIfInBounds_ne hjx] at hlx
      refine ih _ a' w' (by simpa using hz) hcl2 (fun k hk hkl => ?_) (by have := left_set hj0; omega) hI'
      have hne : j ≠ k := by omega
      have := hl k hk hkl
      simp only [Array.getD_eq_getD_getElem?] at this ⊢
      rw [Array.getElem?_setIfInBounds_ne hne]
      exact this

/-- the block that a pointer or a slice names -/
def bl : Value → Option Nat
  | .pointer (some a) => some a.block
  | .slice (some a) _ _ => some a.block
  | _ => none
/-- what is known of the frame and the world when these are listed -/
structure Fr (ops : Array Oper) (T : Nat) (al : Nat → Bool) (a0 : Act) (E : Nat → World → Value → Prop) (Wi : World → Prop) (listed : Array Bool) (a : Act) (w : World) : Prop where
  d : a.defers = a0.defers
  z : a.tmps.size = a0.tmps.size
  on : ∀ i o d, i < T → ops[i]? = some o → o.dst = some d → listed.getD i false = true → E i w (a.tmps.getD d undef)
  off : ∀ d, (∀ i o, i < T → ops[i]? = some o → o.dst ≠ some d) → a.tmps.getD d undef = a0.tmps.getD d undef
  wi : Wi w
  ne : ∀ i j oi oj di dj, i < T → j < T → i ≠ j → al i = true → al j = true → ops[i]? = some oi → ops[j]? = some oj → oi.dst = some di → oj.dst = some dj →
    listed.getD i false = true → listed.getD j false = true → bl (a.tmps.getD di undef) ≠ bl (a.tmps.getD dj undef)

/-- the walk of a region that draws its order -/
theorem region {id : Nat} {a0 : Act} {w0 : World} (hm : P.follows .mixedOrders = true) (T : Nat) (h : okEdges ops T = true) (hT : T ≤ ops.size) (hD : okDsts ops T a0.tmps.size = true)
    (al : Nat → Bool) (E : Nat → World → Value → Prop) (Wi : World → Prop) (hAl : ∀ i w v, al i = true → E i w v → ∃ g, bl v = some g ∧ g < w.heap.size) (h0 : Wi w0.drew) (hE : ∀ i w w' v, E i w v → Below w.heap.size w w' → E i w' v)
    (hstep : ∀ i o, i < T → ops[i]? = some o → ∀ a w, a.defers = a0.defers → Wi w →
      (∀ j oj d, (∃ e ∈ o.after, Region.binds .any e = true ∧ e.on = j) → j < T → ops[j]? = some oj → oj.dst = some d → E j w (a.tmps.getD d undef)) →
      (∀ d, (∀ i o, i < T → ops[i]? = some o → o.dst ≠ some d) → a.tmps.getD d undef = a0.tmps.getD d undef) →
      ∀ K : Act → World → Prop, (∀ v w', E i w' v → (al i = true → bl v = some w.heap.size) → Wi w' → Below w.heap.size w w' → K (a.put o.dst v) w') →
        if Region.wanted o (yielded ops a.tmps) = true then Oper.wp P o a w K Q else K (a.put o.dst undef) w)
    (hend : ∀ a w, a.defers = a0.defers → a.tmps.size = a0.tmps.size → Wi w → (∀ i o d, i < T → ops[i]? = some o → o.dst = some d → E i w (a.tmps.getD d undef)) →
      (∀ i j oi oj di dj, i < T → j < T → i ≠ j → al i = true → al j = true → ops[i]? = some oi → ops[j]? = some oj → oi.dst = some di → oj.dst = some dj → bl (a.tmps.getD di undef) ≠ bl (a.tmps.getD dj undef)) →
      (∀ d, (∀ i o, i < T → ops[i]? = some o → o.dst ≠ some d) → a.tmps.getD d undef = a0.tmps.getD d undef) → wpList P ops Q (ops.toList.drop T) a w) :
    (Code.region id ops true).wp P Q a0 w0 := by
  refine wp_region_any hm ?_
  show wpAny P .any ops Q ops.size (Array.replicate ops.size false) a0 w0.drew
  refine wpAny_inv h hT (Fr ops T al a0 E Wi) ?_ ?_ _ _ _ _ (by simp) (fun j o ho hl => by
    have hj : j < ops.size := (Array.getElem?_eq_some_iff.1 ho).1
    simp [hj] at hl) (fun i _ hi => by simp [hi]) ?_ ⟨rfl, rfl, fun i o d _ ho _ hl => ?_, fun _ _ => rfl, h0, fun i j oi oj di dj _ _ _ _ _ ho _ _ _ hl _ => ?_⟩
  · intro i hi listed a w hr hz hF
    obtain ⟨hl0, o, ho, hall⟩ := mem_ready.1 hr
    refine wpOp_step ho fun K' hK' => ?_
    refine hstep i o hi ho a w hF.d hF.wi (fun j oj d hj hjT hoj hd => ?_) hF.off K' (fun v w' hv hal hw' hB => hK' _ _ ?_)
    · obtain ⟨e, he, hb, rfl⟩ := hj
      exact hF.on e.on oj d hjT hoj hd (hall e he hb)
    · have hput : (a.put o.dst v).tmps.size = a0.tmps.size := by
        cases hd : o.dst <;> simp [Act.put, hF.z]
      have keep : ∀ (j : Nat) (oj : Oper) (d : Nat), j < T → ops[j]? = some oj → oj.dst = some d → i ≠ j → (a.put o.dst v).tmps.getD d undef = a.tmps.getD d undef := by
        intro j oj d hjT hoj hd hij
        cases hdi : o.dst with
        | none => rfl
        | some di =>
          have hne : oj.dst ≠ some di := okDsts_ne hD hi ho hdi hjT hoj hij
          have hdd : di ≠ d := by intro e; subst e; exact hne hd
          simp only [Act.put]
          rw [Array.getD_eq_getD_getElem?, Array.getElem?_setIfInBounds_ne hdd, ← Array.getD_eq_getD_getElem?]
      have mine : ∀ d, o.dst = some d → (a.put o.dst v).tmps.getD d undef = v := by
        intro d hd
        have hlt := okDsts_lt hD hi ho hd
        rw [← hF.z] at hlt
        simp only [Act.put, hd]
        rw [Array.getD_eq_getD_getElem?, Array.getElem?_setIfInBounds_self_of_lt hlt]; rfl
      have old : ∀ j, i ≠ j → (listed.setIfInBounds i true).getD j false = true → listed.getD j false = true := by
        intro j hij hl
        simp only [Array.getD_eq_getD_getElem?] at hl ⊢
        rwa [Array.getElem?_setIfInBounds_ne hij] at hl
      refine ⟨by cases hd : o.dst <;> simp [Act.put, hF.d], hput, fun j oj d hjT hoj hd hl => ?_, fun d hno => ?_, hw', ?_⟩
      rotate_left 2
      · have fresh : ∀ j oj dj, j < T → i ≠ j → al i = true → al j = true → ops[j]? = some oj → oj.dst = some dj → (listed.setIfInBounds i true).getD j false = true → bl (a.tmps.getD dj undef) ≠ bl v := by
          intro j oj dj hjT hij hai haj hoj hdj hlj e
          obtain ⟨g, hg, hlt⟩ := hAl j w _ haj (hF.on j oj dj hjT hoj hdj (old j hij hlj))
          rw [hal hai, hg] at e
          injection e with e
          omega
        intro j k oj ok dj dk hjT hkT hjk haj hak hoj hok hdj hdk hlj hlk
        by_cases hij : i = j
        · subst hij
          rw [ho] at hoj; cases hoj
          rw [mine dj hdj, keep k ok dk hkT hok hdk hjk]
          exact (fresh k ok dk hkT hjk haj hak hok hdk hlk).symm
        · by_cases hik : i = k
          · subst hik
            rw [ho] at hok; cases hok
            rw [mine dk hdk, keep j oj dj hjT hoj hdj hij]
            exact fresh j oj dj hjT hij hak haj hoj hdj hlj
          · rw [keep j oj dj hjT hoj hdj hij, keep k ok dk hkT hok hdk hik]
            exact hF.ne j k oj ok dj dk hjT hkT hjk haj hak hoj hok hdj hdk (old j hij hlj) (old k hik hlk)
      · by_cases hij : i = j
        · subst hij
          rw [ho] at hoj; cases hoj
          have hlt := okDsts_lt hD hi ho hd
          rw [← hF.z] at hlt
          simp only [Act.put, hd]
          rw [Array.getD_eq_getD_getElem?, Array.getElem?_setIfInBounds_self_of_lt hlt]
          exact hv
        · have hl' : listed.getD j false = true := by
            simp only [Array.getD_eq_getD_getElem?] at hl ⊢
            rwa [Array.getElem?_setIfInBounds_ne hij] at hl
          have h1 := hE j w w' _ (hF.on j oj d hjT hoj hd hl') hB
          cases hdi : o.dst with
          | none => simpa [Act.put, hdi] using h1
          | some di =>
            have hne : oj.dst ≠ some di := okDsts_ne hD hi ho hdi hjT hoj hij
            have hdd : di ≠ d := by intro e; subst e; exact hne hd
            simp only [Act.put]
            rw [Array.getD_eq_getD_getElem?, Array.getElem?_setIfInBounds_ne hdd, ← Array.getD_eq_getD_getElem?]
            exact h1
      · cases hdi : o.dst with
        | none => simpa [Act.put, hdi] using hF.off d hno
        | some di =>
          have hdd : di ≠ d := by intro e; subst e; exact hno i o hi ho hdi
          simp only [Act.put]
          rw [Array.getD_eq_getD_getElem?, Array.getElem?_setIfInBounds_ne hdd, ← Array.getD_eq_getD_getElem?]
          exact hF.off d hno
  · intro listed a w hall hF
    have := wpOps_eq_wpList (P := P) (ops := ops) (Q := Q) (ops.toList.drop T) T (fun j => by rw [List.getElem?_drop, Array.getElem?_toList])
    rw [List.length_drop, Array.length_toList] at this
    rw [this]
    exact hend a w hF.d hF.z hF.wi (fun i o d hi ho hd => hF.on i o d hi ho hd (hall i hi))
      (fun i j oi oj di dj hi hj hij hai haj hoi hoj hdi hdj => hF.ne i j oi oj di dj hi hj hij hai haj hoi hoj hdi hdj (hall i hi) (hall j hj)) hF.off
  · unfold left; simp
  · have hlt : i < ops.size := (Array.getElem?_eq_some_iff.1 ho).1
    simp [hlt] at hl
  · have hlt : i < ops.size := (Array.getElem?_eq_some_iff.1 ho).1
    simp [hlt] at hl

/-- the operation waits for number j -/
def waits (o : Oper) (j : Nat) : Bool := o.after.toList.any fun e => Region.binds .any e && e.on == j
theorem waits_ex {o : Oper} {j : Nat} (h : waits o j = true) : ∃ e ∈ o.after, Region.binds .any e = true ∧ e.on = j := by
  obtain ⟨e, he, h4⟩ := List.any_eq_true.1 h
  simp only [Bool.and_eq_true, beq_iff_eq] at h4
  exact ⟨e, Array.mem_toList_iff.1 he, h4.1, h4.2⟩
theorem yielded_of {j d : Nat} {tm : Array Value} {b : Bool} (hd : (ops[j]?).bind (·.dst) = some d) (h : tm[d]?.getD undef = .bool b) : yielded ops tm j = some b := by
  unfold yielded
  rw [hd]
  simp only [Option.bind_some]
  cases e : tm[d]? with
  | none => rw [e] at h; cases h
  | some v => rw [e] at h; simp at h; subst h; rfl
theorem guard_yes {o : Oper} {j d : Nat} {tm : Array Value} {b : Bool} (hg : o.guard = some (j, b)) (hd : (ops[j]?).bind (·.dst) = some d) (h : tm[d]?.getD undef = .bool b) : Region.wanted o (yielded ops tm) = true := by
  unfold Region.wanted; rw [hg]
  simp only [yielded_of hd h]; simp
theorem guard_no {o : Oper} {j d : Nat} {tm : Array Value} {b : Bool} (hg : o.guard = some (j, !b)) (hd : (ops[j]?).bind (·.dst) = some d) (h : tm[d]?.getD undef = .bool b) : ¬ Region.wanted o (yielded ops tm) = true := by
  unfold Region.wanted; rw [hg]
  simp only [yielded_of hd h]; cases b <;> simp
/-- values are put into slots -/
def puts : Act → List (Option Tmp × Value) → Act
  | a, [] => a
  | a, p :: l => puts (a.put p.1 p.2) l
theorem puts_defers (l : List (Option Tmp × Value)) : ∀ a : Act, (puts a l).defers = a.defers := by
  induction l with
  | nil => intro a; rfl
  | cons p l ih => intro a; rw [puts, ih]; cases h : p.1 <;> simp [Act.put]
theorem puts_size (l : List (Option Tmp × Value)) : ∀ a : Act, (puts a l).tmps.size = a.tmps.size := by
  induction l with
  | nil => intro a; rfl
  | cons p l ih => intro a; rw [puts, ih]; cases h : p.1 <;> simp [Act.put]
theorem puts_off (l : List (Option Tmp × Value)) (d : Nat) : ∀ a : Act, (∀ p ∈ l, p.1 ≠ some d) → (puts a l).tmps.getD d undef = a.tmps.getD d undef := by
  induction l with
  | nil => intro a _; rfl
  | cons p l ih =>
    intro a h
    rw [puts, ih _ (fun q hq => h q (List.mem_cons_of_mem _ hq))]
    have h1 := h p (by simp)
    cases hp : p.1 with
    | none => rfl
    | some d' =>
      have hne : d' ≠ d := by intro e; subst e; exact h1 hp
      simp only [Act.put]
      rw [Array.getD_eq_getD_getElem?, Array.getElem?_setIfInBounds_ne hne, ← Array.getD_eq_getD_getElem?]
theorem puts_on (l : List (Option Tmp × Value)) (d : Nat) (v : Value) : ∀ (a : Act) (i : Nat), d < a.tmps.size → l[i]? = some (some d, v) → (∀ (j : Nat) (p : Option Tmp × Value), l[j]? = some p → j ≠ i → p.1 ≠ some d) → (puts a l).tmps.getD d undef = v := by
  induction l with
  | nil => intro a i _ h; simp at h
  | cons p l ih =>
    intro a i hd h hne
    rw [puts]
    cases i with
    | zero =>
      simp at h; subst h
      rw [puts_off l d _ (fun q hq => by
        obtain ⟨j, hj, rfl⟩ := List.mem_iff_getElem.1 hq
        exact hne (j + 1) _ (by rw [List.getElem?_cons_succ, List.getElem?_eq_getElem hj]) (by omega))]
      simp only [Act.put]
      rw [Array.getD_eq_getD_getElem?, Array.getElem?_setIfInBounds_self_of_lt hd]; rfl
    | succ i =>
      refine ih _ i (by cases hp : p.1 <;> simpa [Act.put] using hd) (by simpa using h) (fun j q hj hji => hne (j + 1) q (by simpa using hj) (by omega))

/-- the walk of a region that draws its order; L: the slots of the operations before T, with what they hold behind them; R: what is known of the block of an alloc (operation k; its letter is g) -/
theorem walk {id : Nat} {a0 : Act} {w0 : World} (hm : P.follows .mixedOrders = true) (T : Nat) (h : okEdges ops T = true) (hT : T ≤ ops.size) (hD : okDsts ops T a0.tmps.size = true)
    (al : Nat → Bool) (VF : Nat → Nat → Value) (hVF : ∀ i g, al i = true → bl (VF i g) = some g) (L : (Nat → Nat) → List (Option Tmp × Value)) (hL : ∀ g, (L g).map (·.1) = (ops.toList.take T).map (·.dst)) (hk : ∀ g i, al i = false → (L g)[i]? = (L fun _ => 0)[i]?)
    (hkv : ∀ g i, i < T → al i = true → ((L g)[i]?).map (·.2) = some (VF i (g i)))
    (R : Nat → Nat → World → Prop) (hR : ∀ i g w w', R i g w → Below w.heap.size w w' → R i g w')
    (Wi : World → Prop) (h0 : Wi w0.drew)
    (hstep : ∀ i o, i < T → ops[i]? = some o → ∀ (Q' : Exit → Act → World → Prop) a w, Wi w →
      (∀ j oj d, waits o j = true → j < T → ops[j]? = some oj → oj.dst = some d → al j = false → ((L fun _ => 0)[j]?).map (·.2) = some (a.tmps[d]?.getD undef)) →
      (∀ d, ((ops.toList.take T).all fun o => o.dst != some d) = true → a.tmps[d]?.getD undef = a0.tmps[d]?.getD undef) →
      ∀ K : Act → World → Prop, (∀ v w', (if al i = true then v = VF i w.heap.size ∧ w.heap.size < w'.heap.size ∧ R i w.heap.size w' else ((L fun _ => 0)[i]?).map (·.2) = some v) → Wi w' → Below w.heap.size w w' → K (a.put o.dst v) w') →
        if Region.wanted o (yielded ops a.tmps) = true then Oper.wp P o a w K Q' else K (a.put o.dst undef) w)
    (hend : ∀ g w, Wi w → (∀ i, i < T → al i = true → (((ops[i]?).bind (·.dst)).isSome = true) → R i (g i) w ∧ g i < w.heap.size) → (∀ i j, i < T → j < T → al i = true → al j = true → i ≠ j → ((ops[i]?).bind (·.dst)).isSome = true → ((ops[j]?).bind (·.dst)).isSome = true → g i ≠ g j) → wpList P ops Q (ops.toList.drop T) (puts a0 (L g)) w) :
    (Code.region id ops true).wp P Q a0 w0 := by
  refine region hm T h hT hD al (fun i w v => if al i = true then ∃ g, v = VF i g ∧ g < w.heap.size ∧ R i g w else ((L fun _ => 0)[i]?).map (·.2) = some v) Wi ?_ h0 ?_ ?_ ?_
  · intro i w v hi hv
    rw [if_pos hi] at hv
    obtain ⟨g, h1, h2, _⟩ := hv
    exact ⟨g, by rw [h1]; exact hVF i g hi, h2⟩
  · intro i w w' v hv hB
    split
    · rename_i e; rw [if_pos e] at hv
      obtain ⟨g, h1, h2, h3⟩ := hv
      exact ⟨g, h1, Nat.lt_of_lt_of_le h2 hB.size, hR i g w w' h3 hB⟩
    · rename_i e; rw [if_neg e] at hv; exact hv
  · intro i o hi ho a w _ hw hon hoff K hK
    refine hstep i o hi ho Q a w hw (fun j oj d hj hjT hoj hd hjk => ?_) (fun d hd => ?_) K (fun v w' hv hw' hB => hK v w' ?_ ?_ hw' hB)
    · have := hon j oj d (waits_ex hj) hjT hoj hd
      rw [if_neg (by rw [hjk]; decide)] at this
      rw [← Array.getD_eq_getD_getElem?]; exact this
    · rw [← Array.getD_eq_getD_getElem?, ← Array.getD_eq_getD_getElem?]
      refine hoff d fun j oj hj hoj e => ?_
      have := List.all_eq_true.1 hd oj (by
        rw [List.mem_iff_getElem?]
        exact ⟨j, by rw [List.getElem?_take, if_pos hj, Array.getElem?_toList]; exact hoj⟩)
      rw [e] at this; simp at this
    · split
      · rename_i e; rw [if_pos e] at hv; exact ⟨_, hv.1, hv.2.1, hv.2.2⟩
      · rename_i e; rw [if_neg e] at hv; exact hv
    · intro e; rw [if_pos e] at hv; rw [hv.1]; exact hVF i _ e
  · intro a w hd hz hw hon hne hoff
    have hlen : ∀ g, (L g).length = T := fun g => by
      have := congrArg List.length (hL g)
      simp at this; omega
    -- the letters
    obtain ⟨g, hg⟩ : ∃ g : Nat → Nat, ∀ i o d, i < T → al i = true → ops[i]? = some o → o.dst = some d → a.tmps.getD d undef = VF i (g i) ∧ g i < w.heap.size ∧ R i (g i) w := by
      refine ⟨fun i => match (ops[i]?).bind (·.dst) with
        | some d => (bl (a.tmps.getD d undef)).getD 0
        | none => 0, fun i o d hi hai ho hod => ?_⟩
      have h1 := hon i o d hi ho hod
      rw [if_pos hai] at h1
      obtain ⟨g, h2, h3, h4⟩ := h1
      have h5 : (bl (a.tmps.getD d undef)).getD 0 = g := by rw [h2, hVF i g hai]; rfl
      simp only [ho, Option.bind_some, hod, h5]
      exact ⟨h2, h3, h4⟩
    have hval : ∀ i o d, i < T → ops[i]? = some o → o.dst = some d → ((L g)[i]?).map (·.2) = some (a.tmps.getD d undef) := by
      intro i o d hi ho hod
      cases hai : al i with
      | true => rw [(hg i o d hi hai ho hod).1]; exact hkv g i hi hai
      | false =>
        have := hon i o d hi ho hod
        rw [if_neg (by rw [hai]; decide)] at this
        rw [hk g i hai]; exact this
    have hLd : ∀ (i : Nat) (p : Option Tmp × Value), (L g)[i]? = some p → ∃ o, ops[i]? = some o ∧ i < T ∧ o.dst = p.1 := by
      intro i p hp
      have h1 := congrArg (·[i]?) (hL g)
      simp only [List.getElem?_map, hp, Option.map_some] at h1
      rw [List.getElem?_take] at h1
      split at h1
      · rename_i hi
        rw [Array.getElem?_toList] at h1
        cases ho : ops[i]? with
        | none => rw [ho] at h1; cases h1
        | some o =>
          rw [ho] at h1
          simp at h1
          exact ⟨o, rfl, hi, h1.symm⟩
      · cases h1
    have ea : a = puts a0 (L g) := by
      have e1 : a.defers = (puts a0 (L g)).defers := by rw [puts_defers, hd]
      have e2 : a.tmps = (puts a0 (L g)).tmps := by
        refine Array.ext (by rw [puts_size, hz]) fun d h1 h2 => ?_
        have key : a.tmps.getD d undef = (puts a0 (L g)).tmps.getD d undef := by
          by_cases hex : ∃ i o, i < T ∧ ops[i]? = some o ∧ o.dst = some d
          · obtain ⟨i, o, hi, ho, hod⟩ := hex
            have hv := hval i o d hi ho hod
            cases hp : (L g)[i]? with
            | none => rw [hp] at hv; cases hv
            | some p =>
              rw [hp] at hv
              simp at hv
              obtain ⟨o', ho', _, hpd⟩ := hLd i p hp
              rw [ho] at ho'; cases ho'
              refine (puts_on (L g) d _ a0 i (by rw [← hz]; exact h1) (by rw [hp]; congr 1; exact Prod.ext (by rw [← hpd, hod]) (by simpa using hv)) (fun j q hq hji => ?_)).symm
              obtain ⟨oj, hoj, hjT, hjd⟩ := hLd j q hq
              rw [← hjd]
              exact okDsts_ne hD hi ho hod hjT hoj (Ne.symm hji)
          · rw [hoff d (fun i o hi ho e => hex ⟨i, o, hi, ho, e⟩), puts_off]
            intro p hp e
            obtain ⟨j, hj, rfl⟩ := List.mem_iff_getElem.1 hp
            obtain ⟨oj, hoj, hjT, hjd⟩ := hLd j _ (List.getElem?_eq_getElem hj)
            exact hex ⟨j, oj, hjT, hoj, by rw [hjd, e]⟩
        simpa [h1, h2] using key
      cases a; cases hp : puts a0 (L g)
      rw [hp] at e1 e2
      simp at e1 e2
      rw [e1, e2]
    rw [ea]
    refine hend g w hw (fun i hi hai hs => ?_) (fun i j hi hj hai haj hij hsi hsj e => ?_)
    · obtain ⟨d, hd'⟩ := Option.isSome_iff_exists.1 hs
      cases ho : ops[i]? with
      | none => rw [ho] at hd'; cases hd'
      | some o =>
        rw [ho] at hd'
        have := hg i o d hi hai ho hd'
        exact ⟨this.2.2, this.2.1⟩
    · obtain ⟨d, hd'⟩ := Option.isSome_iff_exists.1 hsi
      obtain ⟨d2, hd2⟩ := Option.isSome_iff_exists.1 hsj
      cases ho : ops[i]? with
      | none => rw [ho] at hd'; cases hd'
      | some o =>
        cases ho2 : ops[j]? with
        | none => rw [ho2] at hd2; cases hd2
        | some o2 =>
          rw [ho] at hd'; rw [ho2] at hd2
          refine hne i j o o2 d d2 hi hj hij hai haj ho ho2 hd' hd2 ?_
          rw [(hg i o d hi hai ho hd').1, (hg j o2 d2 hj haj ho2 hd2).1, hVF _ _ hai, hVF _ _ haj, e]
end Go.RegT

namespace Go.Proofs.YtdknneofiefieaaGreatDoor
open Go.RowKit Go.Lib Dec Wd Rt Geo Sh

set_option maxRecDepth 100000 in
set_option maxHeartbeats 1000000 in
theorem raround_w {x y d : Int} {t1 t2 t3 hf : ByteArray} (w : World)
    (O : ∀ w, Calls Tryz.prog 107 #[.int .i64 d, .int .i64 2] w (RB (.string hf) w))
    (X : ∀ w, Calls Tryz.prog 34 #[.int .i64 x] w (RB (.string t1) w))
    (Y : ∀ w, Calls Tryz.prog 34 #[.int .i64 y] w (RB (.string t2) w))
    (T : ∀ w, Calls Tryz.prog 108 #[.string hf, .string hf] w (RB (.string t3) w)) :
    Calls Tryz.prog 70 #[.int .i64 x, .int .i64 y, .int .i64 d] w (RB (.agg #[.string t1, .string t2, .string t3]) w) := by
  obtain ⟨W, hW⟩ : ∃ W, w.alloc (.cells #[.string ⟨#[]⟩, .string ⟨#[]⟩, .string ⟨#[]⟩] 43) = W := ⟨_, rfl⟩
  have h0 : W.heap[w.heap.size]? = some (.cells #[.string ⟨#[]⟩, .string ⟨#[]⟩, .string ⟨#[]⟩] 43 (0, 0)) := hW ▸ heap_alloc_new w _
  have bW : Below w.heap.size w W := hW ▸ (Below.refl _ w).alloc (Nat.le_refl _) _
  go_enter Tryz.func70, Tryz.ntmps70
  go_wp2_with fail
  clear hW
  refine (O _).mono ?_
  rintro e w1 ⟨rfl, b1⟩
  have B1 := Bl.trans bW b1
  have h1 := blk_below h0 b1
  go_wp2_with fail
  refine (X _).mono ?_
  rintro e w2 ⟨rfl, b2⟩
  have B2 := Bl.trans B1 b2
  have h2 := blk_below h1 b2
  go_wp2_with fail
  refine (Y _).mono ?_
  rintro e w3 ⟨rfl, b3⟩
  have B3 := Bl.trans B2 b3
  have h3 := blk_below h2 b3
  go_wp2_with fail
  refine (T _).mono ?_
  rintro e w4 ⟨rfl, b4⟩
  have B4 := Bl.trans B3 b4
  have h4 := blk_below h3 b4
  have r0 := cell_of_row w4 _ 0 _ _ _ h4
  have r1 := cell_of_row w4 _ 1 _ _ _ h4
  have r2 := cell_of_row w4 _ 2 _ _ _ h4
  simp at r0 r1 r2
  have f0 : ∀ o, w4.frozen? ⟨w.heap.size, o, none⟩ = false := fun o => by unfold World.frozen?; simp [h4]
  have q0 := f0 0
  have q1 := f0 1
  have q2 := f0 2
  clear f0
  go_wp2_with fail
  try simp only [Exit.then]
  refine bodyPost_ret (v := .agg #[.string t1, .string t2, .string t3]) ?_ rfl ⟨rfl, ((B4.setCell (p := ⟨w.heap.size, 0, none⟩) (Nat.le_refl _) _).setCell (p := ⟨w.heap.size, 1, none⟩) (Nat.le_refl _) _).setCell (p := ⟨w.heap.size, 2, none⟩) (Nat.le_refl _) _⟩
  simp [results, Tryz.f70, go_sem, r0, r1, r2]

theorem half_nn {d : Int} (h0 : 0 ≤ d) (hd : d.natAbs ≤ 10 ^ 6) : Nn (Rat.divInt d 2) := by
  have hn := low_num (num := d) (den := 2) (by decide)
  have hdn := low_den (num := d) (den := 2) (by decide)
  have hg : gs d 2 = ((Nat.gcd d.natAbs 2 : Nat) : Int) := by unfold gs; rw [if_neg (by decide)]; rfl
  rw [hg] at hn hdn
  have g0 : 0 < Nat.gcd d.natAbs 2 := Nat.gcd_pos_of_pos_right _ (by decide)
  generalize Nat.gcd d.natAbs 2 = G at *
  have g1 : (0 : Int) < (G : Int) := by omega
  have a1 : 0 ≤ d / (G : Int) := Int.ediv_nonneg h0 (Int.le_of_lt g1)
  have a2 : d / (G : Int) ≤ d := Int.ediv_le_self _ h0
  have a3 : (2 : Int) / (G : Int) ≤ 2 := Int.ediv_le_self _ (by decide)
  exact ⟨by omega, by omega, by omega⟩
theorem half_sq (d : Int) : Rat.divInt d 2 * Rat.divInt d 2 = Rat.divInt (d * d) 4 := by
  rw [Rat.divInt_mul_divInt]; rfl
theorem raround_c {x y d : Int} (hx : x.natAbs ≤ 10 ^ 6) (hy : y.natAbs ≤ 10 ^ 6) (h0 : 0 ≤ d) (hd : d.natAbs ≤ 10 ^ 6) (w : World) :
    Calls Tryz.prog 70 #[.int .i64 x, .int .i64 y, .int .i64 d] w (RB (.agg #[.string (rt (around x y d).x), .string (rt (around x y d).y), .string (rt (around x y d).s)]) w) := by
  have hn := half_nn h0 hd
  have t := fun w => rrtimes_c hn hn w
  rw [half_sq] at t
  exact raround_w w (fun w => rover_c (by omega) (by decide) (by decide) w) (fun w => rwhole_c x (by omega) w) (fun w => rwhole_c y (by omega) w) t
end Go.Proofs.YtdknneofiefieaaGreatDoor

namespace Go.Proofs.YtdknneofiefieaaGreatDoor
open Go.RowKit Go.Lib Dec Wd Rt Geo Sh

set_option maxRecDepth 100000 in
set_option maxHeartbeats 1000000 in
theorem rextra_0 {x y lo hi tol n : Int} {pin : Bool} (w : World) :
    Calls Tryz.prog 71 #[.agg #[.int .i64 x, .int .i64 y, .int .i64 lo, .int .i64 hi, .int .i64 tol, .int .i64 0, .bool pin], .int .i64 n] w (RB (.int .i64 0) w) := by
  go_enter Tryz.func71, Tryz.ntmps71
  go_wp2
  go_ret
  exact ⟨rfl, (Below.refl _ w).alloc (Nat.le_refl _) _⟩
set_option maxRecDepth 100000 in
set_option maxHeartbeats 1000000 in
theorem rextra_1true {x y lo hi tol n : Int} (h1 : 1 ≤ lo) (h2 : lo ≤ n) (h3 : n ≤ hi) (h4 : hi ≤ 100000) (w : World) :
    Calls Tryz.prog 71 #[.agg #[.int .i64 x, .int .i64 y, .int .i64 lo, .int .i64 hi, .int .i64 tol, .int .i64 1, .bool true], .int .i64 n] w (RB (.int .i64 (hi - n)) w) := by
  go_enter Tryz.func71, Tryz.ntmps71
  go_wp2
  go_ret
  exact ⟨rfl, (Below.refl _ w).alloc (Nat.le_refl _) _⟩
set_option maxRecDepth 100000 in
set_option maxHeartbeats 1000000 in
theorem rextra_1false {x y lo hi tol n : Int} (h1 : 1 ≤ lo) (h2 : lo ≤ n) (h3 : n ≤ hi) (h4 : hi ≤ 100000) (w : World) :
    Calls Tryz.prog 71 #[.agg #[.int .i64 x, .int .i64 y, .int .i64 lo, .int .i64 hi, .int .i64 tol, .int .i64 1, .bool false], .int .i64 n] w (RB (.int .i64 (n - lo)) w) := by
  go_enter Tryz.func71, Tryz.ntmps71
  go_wp2
  go_ret
  exact ⟨rfl, (Below.refl _ w).alloc (Nat.le_refl _) _⟩
set_option maxRecDepth 100000 in
set_option maxHeartbeats 1000000 in
theorem rextra_2true {x y lo hi tol n : Int} (h1 : 1 ≤ lo) (h2 : lo ≤ n) (h3 : n ≤ hi) (h4 : hi ≤ 100000) (w : World) :
    Calls Tryz.prog 71 #[.agg #[.int .i64 x, .int .i64 y, .int .i64 lo, .int .i64 hi, .int .i64 tol, .int .i64 2, .bool true], .int .i64 n] w (RB (.int .i64 (n - lo)) w) := by
  go_enter Tryz.func71, Tryz.ntmps71
  go_wp2
  go_ret
  exact ⟨rfl, (Below.refl _ w).alloc (Nat.le_refl _) _⟩
set_option maxRecDepth 100000 in
set_option maxHeartbeats 1000000 in
theorem rextra_2false {x y lo hi tol n : Int} (h1 : 1 ≤ lo) (h2 : lo ≤ n) (h3 : n ≤ hi) (h4 : hi ≤ 100000) (w : World) :
    Calls Tryz.prog 71 #[.agg #[.int .i64 x, .int .i64 y, .int .i64 lo, .int .i64 hi, .int .i64 tol, .int .i64 2, .bool false], .int .i64 n] w (RB (.int .i64 (hi - n)) w) := by
  go_enter Tryz.func71, Tryz.ntmps71
  go_wp2
  go_ret
  exact ⟨rfl, (Below.refl _ w).alloc (Nat.le_refl _) _⟩
theorem rextra_c {t : Tg} {c : Ci} (h : Tok t) (k : Win t c) (w : World) :
    Calls Tryz.prog 71 #[.agg (tcells t), .int .i64 c.n] w (RB (.int .i64 (extra t c.n)) w) := by
  obtain ⟨x, y, lo, hi, tol, mat, pin⟩ := t
  obtain ⟨cx, cy, n⟩ := c
  obtain ⟨_, _, _, _, l1, l2, l3, l4, l5, _, _, _, m1, m2⟩ := h
  obtain ⟨k1, k2⟩ := k
  simp only at *
  unfold extra tcells
  have : mat = 0 ∨ mat = 1 ∨ mat = 2 := by omega
  rcases this with rfl | rfl | rfl
  · exact rextra_0 w
  · cases pin
    · exact rextra_1false l1 k1 k2 l4 w
    · exact rextra_1true l1 k1 k2 l4 w
  · cases pin
    · exact rextra_2false l1 k1 k2 l4 w
    · exact rextra_2true l1 k1 k2 l4 w
end Go.Proofs.YtdknneofiefieaaGreatDoor

namespace Go.Proofs.YtdknneofiefieaaGreatDoor
open Go.RowKit Go.Lib Dec Wd Rt Geo Sh

set_option maxRecDepth 100000 in
set_option maxHeartbeats 4000000 in
theorem rall_c {ts : List (Tg × Ci)} {b o b' o' cp cp' : Nat} {play : Int} (h : Pok ts) (hn : ts.length ≤ 16) (hp1 : -1 ≤ play) (hp2 : play ≤ 100000) (w : World) (hm : PM w b o b' o' ts) :
    Calls Tryz.prog 42 #[.agg (tkv b o ts.length cp b' o' cp' play)] w fun e w' => (∃ v, e = .returned v ∧ w'.ownsRow w.heap.size 43 3 v (zs ts play).length (dcs (zs ts play))) ∧ Below w.heap.size w w' := by
  have hW := h.w
  have hT := h.t
  have hC := h.c
  clear h
  unfold tkv
  have HP := Lib.hid (And.intro hp1 hp2)
  clear hp1 hp2
  obtain ⟨W, hWW⟩ : ∃ W, w.alloc (.cells #[.slice (some ⟨b, o, none⟩) ts.length cp, .slice (some ⟨b', o', none⟩) ts.length cp', .int .i64 play] 34) = W := ⟨_, rfl⟩
  have q1 : W.heap[w.heap.size]? = some (.cells #[.slice (some ⟨b, o, none⟩) ts.length cp, .slice (some ⟨b', o', none⟩) ts.length cp', .int .i64 play] 34 (0, 0)) := hWW ▸ heap_alloc_new w _
  have bW : Below w.heap.size w W := hWW ▸ (Below.refl _ w).alloc (Nat.le_refl _) _
  have hm1 := hm.step bW
  have e0 : W.cell? ⟨w.heap.size, 0, none⟩ = some (.slice (some ⟨b, o, none⟩) ts.length cp) := cell_of_row W _ 0 _ _ _ q1
  clear hm
  obtain ⟨di, dz, hi0, hz0, hs0, hb0, hc0⟩ := discInfo
  go_enter Tryz.func42, Tryz.ntmps42
  go_wp2_with fail
  clear hWW
  go_loopg [3, 4] ts.length (fun m out i wr => ∃ k : Nat, k + m = ts.length ∧ i = .int .i64 k ∧ Below W.heap.size W wr ∧ wr.ownsRow W.heap.size 43 3 out k (dcs (zl (ts.take k))))
  case atStart => exact ⟨0, by omega, rfl, Below.refl _ _, World.ownsRow_nil _ _ _ _⟩
  case round =>
    obtain ⟨k, hmm, rfl, hB, hown⟩ := hrel
    have q3 := blk_below q1 hB
    have e0 : wr.cell? ⟨w.heap.size, 0, none⟩ = some (.slice (some ⟨b, o, none⟩) ts.length cp) := cell_of_row wr _ 0 _ _ _ q3
    have e1 : wr.cell? ⟨w.heap.size, 1, none⟩ = some (.slice (some ⟨b', o', none⟩) ts.length cp') := cell_of_row wr _ 1 _ _ _ q3
    by_cases hlt : k < ts.length
    · obtain ⟨q, hq⟩ : ∃ q, ts[k]? = some q := ⟨_, List.getElem?_eq_getElem hlt⟩
      obtain ⟨a0, a1, a2, a3, a4, a5, a6⟩ := (hm1.t k q hq).step hB
      obtain ⟨d0, d1, d2⟩ := (hm1.c k q hq).step hB
      have hlti : (k : Int) < (ts.length : Int) := by omega
      have tk := hT q (List.mem_of_getElem? hq)
      have ck := hC q (List.mem_of_getElem? hq)
      have wk := hW q (List.mem_of_getElem? hq)
      have ab := alw_bd tk wk
      have eb := extra_bd tk wk
      have tb1 := tk.tol1
      have tb2 := tk.tol2
      have EX := fun w => rextra_c tk wk w
      unfold tcells at EX
      have ea : q.1.tol + extra q.1 q.2.n = alw q.1 q.2 := rfl
      have xb := tk.x1; have xb2 := tk.x2; have yb := tk.y1; have yb2 := tk.y2; have cb := ck.x1; have cb2 := ck.x2; have db := ck.y1; have db2 := ck.y2
      have AR := fun w => raround_c (x := q.1.x - q.2.x) (y := q.1.y - q.2.y) (d := alw q.1 q.2) (by omega) (by omega) (by omega) (by omega) w
      have hz : around (q.1.x - q.2.x) (q.1.y - q.2.y) (alw q.1 q.2) = zone q.1 q.2 := rfl
      rw [hz] at AR
      have et : dcs (zl (ts.take (k + 1))) = dcs (zl (ts.take k)) ++ [.string (rt (zone q.1 q.2).x), .string (rt (zone q.1 q.2).y), .string (rt (zone q.1 q.2).s)] := by
        rw [List.take_add_one, hq]
        unfold zl
        rw [List.map_append]
        exact dcs_snoc _ _
      have hkn : k < 16 := by omega
      have AR := Lib.hid AR
      have EX := Lib.hid EX
      have HM := Lib.hid hmm
      have ET := Lib.hid et
      have BD := Lib.hid (And.intro (And.intro (And.intro xb xb2) (And.intro yb yb2)) (And.intro (And.intro (And.intro cb cb2) (And.intro db db2)) (And.intro (And.intro tb1 tb2) (And.intro eb ea))))
      clear hW hT hC hmm hm1 hq tk ck wk et ab xb xb2 yb yb2 cb cb2 db db2 hz eb tb1 tb2 ea
      go_wp2_with fail
      rename_i KK hKK
      have HK := Lib.hid hKK
      clear hKK
      have hcont : ∀ (gA gB : Nat) (Y : World), Y.heap[gA]? = some (.cells #[.int .i64 q.1.x, .int .i64 q.1.y, .int .i64 q.1.lo, .int .i64 q.1.hi, .int .i64 q.1.tol, .int .i64 q.1.mat, .bool q.1.pin] 85 (0, 0)) → Y.heap[gB]? = some (.cells #[.int .i64 q.2.x, .int .i64 q.2.y, .int .i64 q.2.n] 75 (0, 0)) → Below wr.heap.size wr Y →
          KK { tmps := #[.agg #[.slice (some ⟨b, o, none⟩) ts.length cp, .slice (some ⟨b', o', none⟩) ts.length cp', .int .i64 play], .pointer (some ⟨w.heap.size, 0, none⟩), .slice none 0 0, u3, .int .i64 k, .pointer (some ⟨gA, 0, none⟩), .pointer (some ⟨gB, 0, none⟩), .int .i64 k, .pointer (some ⟨w.heap.size, 0, none⟩), .slice (some ⟨b, o, none⟩) ts.length cp, .int .i64 ts.length, .bool true, u12, u13, .pointer (some ⟨w.heap.size, 0, none⟩), .slice (some ⟨b, o, none⟩) ts.length cp, .int .i64 k, .pointer (some ⟨b, o + k * 7, none⟩), .agg #[.int .i64 q.1.x, .int .i64 q.1.y, .int .i64 q.1.lo, .int .i64 q.1.hi, .int .i64 q.1.tol, .int .i64 q.1.mat, .bool q.1.pin], .pointer (some ⟨w.heap.size, 1, none⟩), .slice (some ⟨b', o', none⟩) ts.length cp', .int .i64 k, .pointer (some ⟨b', o' + k * 3, none⟩), .agg #[.int .i64 q.2.x, .int .i64 q.2.y, .int .i64 q.2.n], u24, u25, u26, u27, u28, u29, u30, u31, u32, u33, u34, u35, u36, u37, u38, u39, u40, u41, u42, u43, u44, u45, u46, u47, u48, undef, undef, undef, undef, undef, undef, undef, undef, undef, undef], defers := [] } Y := by
        intro gA gB Y qA qB bY
        have B2 := Bl.trans hB bY
        have own2 := owns_below hown bY
        clear e0 e1 a0 a1 a2 a3 a4 a5 a6 d0 d1 d2 q1 q3 hown
        refine HK.out _ _ ?_
        go_wp2_with fail
        obtain ⟨⟨⟨xb, xb2⟩, yb, yb2⟩, ⟨⟨cb, cb2⟩, db, db2⟩, ⟨tb1, tb2⟩, eb, ea⟩ := BD.out
        have wx : IntKind.i64.wrap (q.1.x - q.2.x) = q.1.x - q.2.x := IntWalk.i64_in _ (by omega)
        have wy : IntKind.i64.wrap (q.1.y - q.2.y) = q.1.y - q.2.y := IntWalk.i64_in _ (by omega)
        have wt : IntKind.i64.wrap (q.1.tol + extra q.1 q.2.n) = alw q.1 q.2 := by rw [ea]; exact IntWalk.i64_in _ (by omega)
        clear xb xb2 yb yb2 cb cb2 db db2 tb1 tb2 eb ea
        refine RegT.walk (by kernel_rfl) 24 (by kernel_rfl) (by decide) (by kernel_rfl) (fun i => i == 23) (fun _ g => .slice (some ⟨g, 0, none⟩) 1 1) (fun _ _ _ => rfl) (fun g => [(some 24, u3), (some 25, .pointer (some ⟨gA, 0, none⟩)), (some 26, .pointer (some ⟨gA, 0, none⟩)), (some 27, .int .i64 q.1.x), (some 28, .pointer (some ⟨gB, 0, none⟩)), (some 29, .pointer (some ⟨gB, 0, none⟩)), (some 30, .int .i64 q.2.x), (some 31, .int .i64 (q.1.x - q.2.x)), (some 32, .pointer (some ⟨gA, 0, none⟩)), (some 33, .pointer (some ⟨gA, 1, none⟩)), (some 34, .int .i64 q.1.y), (some 35, .pointer (some ⟨gB, 0, none⟩)), (some 36, .pointer (some ⟨gB, 1, none⟩)), (some 37, .int .i64 q.2.y), (some 38, .int .i64 (q.1.y - q.2.y)), (some 39, .pointer (some ⟨gA, 4, none⟩)), (some 40, .int .i64 q.1.tol), (some 41, .agg #[.int .i64 q.1.x, .int .i64 q.1.y, .int .i64 q.1.lo, .int .i64 q.1.hi, .int .i64 q.1.tol, .int .i64 q.1.mat, .bool q.1.pin]), (some 42, .pointer (some ⟨gB, 2, none⟩)), (some 43, .int .i64 q.2.n), (some 44, .int .i64 (extra q.1 q.2.n)), (some 45, .int .i64 (alw q.1 q.2)), (some 46, .agg #[.string (rt (zone q.1 q.2).x), .string (rt (zone q.1 q.2).y), .string (rt (zone q.1 q.2).s)]), (some 47, .slice (some ⟨g 23, 0, none⟩) 1 1)])
          (fun _ => rfl) (fun g i hi => by
            match i, hi with
            | 0, hi => rfl
            | 1, hi => rfl
            | 2, hi => rfl
            | 3, hi => rfl
            | 4, hi => rfl
            | 5, hi => rfl
            | 6, hi => rfl
            | 7, hi => rfl
            | 8, hi => rfl
            | 9, hi => rfl
            | 10, hi => rfl
            | 11, hi => rfl
            | 12, hi => rfl
            | 13, hi => rfl
            | 14, hi => rfl
            | 15, hi => rfl
            | 16, hi => rfl
            | 17, hi => rfl
            | 18, hi => rfl
            | 19, hi => rfl
            | 20, hi => rfl
            | 21, hi => rfl
            | 22, hi => rfl
            | 23, hi => exact absurd hi (by decide)
            | i + 24, _ => rfl)
          (fun g i hT hi => by
            match i, hT, hi with
            | 0, _, hi => exact absurd hi (by decide)
            | 1, _, hi => exact absurd hi (by decide)
            | 2, _, hi => exact absurd hi (by decide)
            | 3, _, hi => exact absurd hi (by decide)
            | 4, _, hi => exact absurd hi (by decide)
            | 5, _, hi => exact absurd hi (by decide)
            | 6, _, hi => exact absurd hi (by decide)
            | 7, _, hi => exact absurd hi (by decide)
            | 8, _, hi => exact absurd hi (by decide)
            | 9, _, hi => exact absurd hi (by decide)
            | 10, _, hi => exact absurd hi (by decide)
            | 11, _, hi => exact absurd hi (by decide)
            | 12, _, hi => exact absurd hi (by decide)
            | 13, _, hi => exact absurd hi (by decide)
            | 14, _, hi => exact absurd hi (by decide)
            | 15, _, hi => exact absurd hi (by decide)
            | 16, _, hi => exact absurd hi (by decide)
            | 17, _, hi => exact absurd hi (by decide)
            | 18, _, hi => exact absurd hi (by decide)
            | 19, _, hi => exact absurd hi (by decide)
            | 20, _, hi => exact absurd hi (by decide)
            | 21, _, hi => exact absurd hi (by decide)
            | 22, _, hi => exact absurd hi (by decide)
            | 23, _, hi => rfl
            | i + 24, h, _ => exact absurd h (by omega))
          (fun _ g x => x.heap[g]? = some (.cells #[.string (rt (zone q.1 q.2).x), .string (rt (zone q.1 q.2).y), .string (rt (zone q.1 q.2).s)] 43 (0, 0))) (fun _ _ _ _ h hB => blk_below h hB)
          (fun x => Below Y.heap.size Y x)
          ((Below.refl _ _).drew) ?_ ?_
        · intro i o hi ho Q' a w' hw hon hoff K hK
          match i, hi with
          | 0, _ =>
            obtain rfl := Option.some.inj ho
            clear ho
            have o3 : a.tmps[3]?.getD undef = u3 := hoff 3 (by kernel_rfl)
            clear hon hoff
            rw [if_pos (by rfl)]
            go_simp
            exact hK _ _ rfl hw (Below.refl _ _)
          | 1, _ =>
            obtain rfl := Option.some.inj ho
            clear ho
            have o5 : a.tmps[5]?.getD undef = .pointer (some ⟨gA, 0, none⟩) := hoff 5 (by kernel_rfl)
            clear hon hoff
            rw [if_pos (by rfl)]
            go_simp
            exact hK _ _ rfl hw (Below.refl _ _)
          | 2, _ =>
            obtain rfl := Option.some.inj ho
            clear ho
            have o25 : a.tmps[25]?.getD undef = .pointer (some ⟨gA, 0, none⟩) := (Option.some.inj (hon 1 _ _ (by kernel_rfl) (by decide) rfl rfl rfl)).symm
            clear hon hoff
            rw [if_pos (by rfl)]
            go_simp
            exact hK _ _ rfl hw (Below.refl _ _)
          | 3, _ =>
            obtain rfl := Option.some.inj ho
            clear ho
            have o26 : a.tmps[26]?.getD undef = .pointer (some ⟨gA, 0, none⟩) := (Option.some.inj (hon 2 _ _ (by kernel_rfl) (by decide) rfl rfl rfl)).symm
            clear hon hoff
            rw [if_pos (by rfl)]
            have hA2 := blk_below qA hw
            have hB2 := blk_below qB hw
            have t0 := cell_of_row w' _ 0 _ _ _ hA2
            have t1 := cell_of_row w' _ 1 _ _ _ hA2
            have t2 := cell_of_row w' _ 2 _ _ _ hA2
            have t3 := cell_of_row w' _ 3 _ _ _ hA2
            have t4 := cell_of_row w' _ 4 _ _ _ hA2
            have t5 := cell_of_row w' _ 5 _ _ _ hA2
            have t6 := cell_of_row w' _ 6 _ _ _ hA2
            have s0 := cell_of_row w' _ 0 _ _ _ hB2
            have s1 := cell_of_row w' _ 1 _ _ _ hB2
            have s2 := cell_of_row w' _ 2 _ _ _ hB2
            simp at t0 t1 t2 t3 t4 t5 t6 s0 s1 s2
            clear hA2 hB2
            go_simp
            exact hK _ _ rfl hw (Below.refl _ _)
          | 4, _ =>
            obtain rfl := Option.some.inj ho
            clear ho
            have o6 : a.tmps[6]?.getD undef = .pointer (some ⟨gB, 0, none⟩) := hoff 6 (by kernel_rfl)
            clear hon hoff
            rw [if_pos (by rfl)]
            go_simp
            exact hK _ _ rfl hw (Below.refl _ _)
          | 5, _ =>
            obtain rfl := Option.some.inj ho
            clear ho
            have o28 : a.tmps[28]?.getD undef = .pointer (some ⟨gB, 0, none⟩) := (Option.some.inj (hon 4 _ _ (by kernel_rfl) (by decide) rfl rfl rfl)).symm
            clear hon hoff
            rw [if_pos (by rfl)]
            go_simp
            exact hK _ _ rfl hw (Below.refl _ _)
          | 6, _ =>
            obtain rfl := Option.some.inj ho
            clear ho
            have o29 : a.tmps[29]?.getD undef = .pointer (some ⟨gB, 0, none⟩) := (Option.some.inj (hon 5 _ _ (by kernel_rfl) (by decide) rfl rfl rfl)).symm
            clear hon hoff
            rw [if_pos (by rfl)]
            have hA2 := blk_below qA hw
            have hB2 := blk_below qB hw
            have t0 := cell_of_row w' _ 0 _ _ _ hA2
            have t1 := cell_of_row w' _ 1 _ _ _ hA2
            have t2 := cell_of_row w' _ 2 _ _ _ hA2
            have t3 := cell_of_row w' _ 3 _ _ _ hA2
            have t4 := cell_of_row w' _ 4 _ _ _ hA2
            have t5 := cell_of_row w' _ 5 _ _ _ hA2
            have t6 := cell_of_row w' _ 6 _ _ _ hA2
            have s0 := cell_of_row w' _ 0 _ _ _ hB2
            have s1 := cell_of_row w' _ 1 _ _ _ hB2
            have s2 := cell_of_row w' _ 2 _ _ _ hB2
            simp at t0 t1 t2 t3 t4 t5 t6 s0 s1 s2
            clear hA2 hB2
            go_simp
            exact hK _ _ rfl hw (Below.refl _ _)
          | 7, _ =>
            obtain rfl := Option.some.inj ho
            clear ho
            have o27 : a.tmps[27]?.getD undef = .int .i64 q.1.x := (Option.some.inj (hon 3 _ _ (by kernel_rfl) (by decide) rfl rfl rfl)).symm
            have o30 : a.tmps[30]?.getD undef = .int .i64 q.2.x := (Option.some.inj (hon 6 _ _ (by kernel_rfl) (by decide) rfl rfl rfl)).symm
            clear hon hoff
            rw [if_pos (by rfl)]
            go_simp
            exact hK _ _ rfl hw (Below.refl _ _)
          | 8, _ =>
            obtain rfl := Option.some.inj ho
            clear ho
            have o5 : a.tmps[5]?.getD undef = .pointer (some ⟨gA, 0, none⟩) := hoff 5 (by kernel_rfl)
            clear hon hoff
            rw [if_pos (by rfl)]
            go_simp
            exact hK _ _ rfl hw (Below.refl _ _)
          | 9, _ =>
            obtain rfl := Option.some.inj ho
            clear ho
            have o32 : a.tmps[32]?.getD undef = .pointer (some ⟨gA, 0, none⟩) := (Option.some.inj (hon 8 _ _ (by kernel_rfl) (by decide) rfl rfl rfl)).symm
            clear hon hoff
            rw [if_pos (by rfl)]
            go_simp
            exact hK _ _ rfl hw (Below.refl _ _)
          | 10, _ =>
            obtain rfl := Option.some.inj ho
            clear ho
            have o33 : a.tmps[33]?.getD undef = .pointer (some ⟨gA, 1, none⟩) := (Option.some.inj (hon 9 _ _ (by kernel_rfl) (by decide) rfl rfl rfl)).symm
            clear hon hoff
            rw [if_pos (by rfl)]
            have hA2 := blk_below qA hw
            have hB2 := blk_below qB hw
            have t0 := cell_of_row w' _ 0 _ _ _ hA2
            have t1 := cell_of_row w' _ 1 _ _ _ hA2
            have t2 := cell_of_row w' _ 2 _ _ _ hA2
            have t3 := cell_of_row w' _ 3 _ _ _ hA2
            have t4 := cell_of_row w' _ 4 _ _ _ hA2
            have t5 := cell_of_row w' _ 5 _ _ _ hA2
            have t6 := cell_of_row w' _ 6 _ _ _ hA2
            have s0 := cell_of_row w' _ 0 _ _ _ hB2
            have s1 := cell_of_row w' _ 1 _ _ _ hB2
            have s2 := cell_of_row w' _ 2 _ _ _ hB2
            simp at t0 t1 t2 t3 t4 t5 t6 s0 s1 s2
            clear hA2 hB2
            go_simp
            exact hK _ _ rfl hw (Below.refl _ _)
          | 11, _ =>
            obtain rfl := Option.some.inj ho
            clear ho
            have o6 : a.tmps[6]?.getD undef = .pointer (some ⟨gB, 0, none⟩) := hoff 6 (by kernel_rfl)
            clear hon hoff
            rw [if_pos (by rfl)]
            go_simp
            exact hK _ _ rfl hw (Below.refl _ _)
          | 12, _ =>
            obtain rfl := Option.some.inj ho
            clear ho
            have o35 : a.tmps[35]?.getD undef = .pointer (some ⟨gB, 0, none⟩) := (Option.some.inj (hon 11 _ _ (by kernel_rfl) (by decide) rfl rfl rfl)).symm
            clear hon hoff
            rw [if_pos (by rfl)]
            go_simp
            exact hK _ _ rfl hw (Below.refl _ _)
          | 13, _ =>
            obtain rfl := Option.some.inj ho
            clear ho
            have o36 : a.tmps[36]?.getD undef = .pointer (some ⟨gB, 1, none⟩) := (Option.some.inj (hon 12 _ _ (by kernel_rfl) (by decide) rfl rfl rfl)).symm
            clear hon hoff
            rw [if_pos (by rfl)]
            have hA2 := blk_below qA hw
            have hB2 := blk_below qB hw
            have t0 := cell_of_row w' _ 0 _ _ _ hA2
            have t1 := cell_of_row w' _ 1 _ _ _ hA2
            have t2 := cell_of_row w' _ 2 _ _ _ hA2
            have t3 := cell_of_row w' _ 3 _ _ _ hA2
            have t4 := cell_of_row w' _ 4 _ _ _ hA2
            have t5 := cell_of_row w' _ 5 _ _ _ hA2
            have t6 := cell_of_row w' _ 6 _ _ _ hA2
            have s0 := cell_of_row w' _ 0 _ _ _ hB2
            have s1 := cell_of_row w' _ 1 _ _ _ hB2
            have s2 := cell_of_row w' _ 2 _ _ _ hB2
            simp at t0 t1 t2 t3 t4 t5 t6 s0 s1 s2
            clear hA2 hB2
            go_simp
            exact hK _ _ rfl hw (Below.refl _ _)
          | 14, _ =>
            obtain rfl := Option.some.inj ho
            clear ho
            have o34 : a.tmps[34]?.getD undef = .int .i64 q.1.y := (Option.some.inj (hon 10 _ _ (by kernel_rfl) (by decide) rfl rfl rfl)).symm
            have o37 : a.tmps[37]?.getD undef = .int .i64 q.2.y := (Option.some.inj (hon 13 _ _ (by kernel_rfl) (by decide) rfl rfl rfl)).symm
            clear hon hoff
            rw [if_pos (by rfl)]
            go_simp
            exact hK _ _ rfl hw (Below.refl _ _)
          | 15, _ =>
            obtain rfl := Option.some.inj ho
            clear ho
            have o5 : a.tmps[5]?.getD undef = .pointer (some ⟨gA, 0, none⟩) := hoff 5 (by kernel_rfl)
            clear hon hoff
            rw [if_pos (by rfl)]
            go_simp
            exact hK _ _ rfl hw (Below.refl _ _)
          | 16, _ =>
            obtain rfl := Option.some.inj ho
            clear ho
            have o39 : a.tmps[39]?.getD undef = .pointer (some ⟨gA, 4, none⟩) := (Option.some.inj (hon 15 _ _ (by kernel_rfl) (by decide) rfl rfl rfl)).symm
            clear hon hoff
            rw [if_pos (by rfl)]
            have hA2 := blk_below qA hw
            have hB2 := blk_below qB hw
            have t0 := cell_of_row w' _ 0 _ _ _ hA2
            have t1 := cell_of_row w' _ 1 _ _ _ hA2
            have t2 := cell_of_row w' _ 2 _ _ _ hA2
            have t3 := cell_of_row w' _ 3 _ _ _ hA2
            have t4 := cell_of_row w' _ 4 _ _ _ hA2
            have t5 := cell_of_row w' _ 5 _ _ _ hA2
            have t6 := cell_of_row w' _ 6 _ _ _ hA2
            have s0 := cell_of_row w' _ 0 _ _ _ hB2
            have s1 := cell_of_row w' _ 1 _ _ _ hB2
            have s2 := cell_of_row w' _ 2 _ _ _ hB2
            simp at t0 t1 t2 t3 t4 t5 t6 s0 s1 s2
            clear hA2 hB2
            go_simp
            exact hK _ _ rfl hw (Below.refl _ _)
          | 17, _ =>
            obtain rfl := Option.some.inj ho
            clear ho
            have o5 : a.tmps[5]?.getD undef = .pointer (some ⟨gA, 0, none⟩) := hoff 5 (by kernel_rfl)
            clear hon hoff
            rw [if_pos (by rfl)]
            have hA2 := blk_below qA hw
            have hB2 := blk_below qB hw
            have t0 := cell_of_row w' _ 0 _ _ _ hA2
            have t1 := cell_of_row w' _ 1 _ _ _ hA2
            have t2 := cell_of_row w' _ 2 _ _ _ hA2
            have t3 := cell_of_row w' _ 3 _ _ _ hA2
            have t4 := cell_of_row w' _ 4 _ _ _ hA2
            have t5 := cell_of_row w' _ 5 _ _ _ hA2
            have t6 := cell_of_row w' _ 6 _ _ _ hA2
            have s0 := cell_of_row w' _ 0 _ _ _ hB2
            have s1 := cell_of_row w' _ 1 _ _ _ hB2
            have s2 := cell_of_row w' _ 2 _ _ _ hB2
            simp at t0 t1 t2 t3 t4 t5 t6 s0 s1 s2
            clear hA2 hB2
            go_simp
            exact hK _ _ rfl hw (Below.refl _ _)
          | 18, _ =>
            obtain rfl := Option.some.inj ho
            clear ho
            have o6 : a.tmps[6]?.getD undef = .pointer (some ⟨gB, 0, none⟩) := hoff 6 (by kernel_rfl)
            clear hon hoff
            rw [if_pos (by rfl)]
            go_simp
            exact hK _ _ rfl hw (Below.refl _ _)
          | 19, _ =>
            obtain rfl := Option.some.inj ho
            clear ho
            have o42 : a.tmps[42]?.getD undef = .pointer (some ⟨gB, 2, none⟩) := (Option.some.inj (hon 18 _ _ (by kernel_rfl) (by decide) rfl rfl rfl)).symm
            clear hon hoff
            rw [if_pos (by rfl)]
            have hA2 := blk_below qA hw
            have hB2 := blk_below qB hw
            have t0 := cell_of_row w' _ 0 _ _ _ hA2
            have t1 := cell_of_row w' _ 1 _ _ _ hA2
            have t2 := cell_of_row w' _ 2 _ _ _ hA2
            have t3 := cell_of_row w' _ 3 _ _ _ hA2
            have t4 := cell_of_row w' _ 4 _ _ _ hA2
            have t5 := cell_of_row w' _ 5 _ _ _ hA2
            have t6 := cell_of_row w' _ 6 _ _ _ hA2
            have s0 := cell_of_row w' _ 0 _ _ _ hB2
            have s1 := cell_of_row w' _ 1 _ _ _ hB2
            have s2 := cell_of_row w' _ 2 _ _ _ hB2
            simp at t0 t1 t2 t3 t4 t5 t6 s0 s1 s2
            clear hA2 hB2
            go_simp
            exact hK _ _ rfl hw (Below.refl _ _)
          | 20, _ =>
            obtain rfl := Option.some.inj ho
            clear ho
            have o41 : a.tmps[41]?.getD undef = .agg #[.int .i64 q.1.x, .int .i64 q.1.y, .int .i64 q.1.lo, .int .i64 q.1.hi, .int .i64 q.1.tol, .int .i64 q.1.mat, .bool q.1.pin] := (Option.some.inj (hon 17 _ _ (by kernel_rfl) (by decide) rfl rfl rfl)).symm
            have o43 : a.tmps[43]?.getD undef = .int .i64 q.2.n := (Option.some.inj (hon 19 _ _ (by kernel_rfl) (by decide) rfl rfl rfl)).symm
            clear hon hoff
            rw [if_pos (by rfl)]
            go_simp
            refine (EX.out _).mono ?_
            rintro e v1 ⟨rfl, b1⟩
            exact hK _ _ rfl (Bl.trans hw b1) b1
          | 21, _ =>
            obtain rfl := Option.some.inj ho
            clear ho
            have o40 : a.tmps[40]?.getD undef = .int .i64 q.1.tol := (Option.some.inj (hon 16 _ _ (by kernel_rfl) (by decide) rfl rfl rfl)).symm
            have o44 : a.tmps[44]?.getD undef = .int .i64 (extra q.1 q.2.n) := (Option.some.inj (hon 20 _ _ (by kernel_rfl) (by decide) rfl rfl rfl)).symm
            clear hon hoff
            rw [if_pos (by rfl)]
            go_simp
            exact hK _ _ rfl hw (Below.refl _ _)
          | 22, _ =>
            obtain rfl := Option.some.inj ho
            clear ho
            have o31 : a.tmps[31]?.getD undef = .int .i64 (q.1.x - q.2.x) := (Option.some.inj (hon 7 _ _ (by kernel_rfl) (by decide) rfl rfl rfl)).symm
            have o38 : a.tmps[38]?.getD undef = .int .i64 (q.1.y - q.2.y) := (Option.some.inj (hon 14 _ _ (by kernel_rfl) (by decide) rfl rfl rfl)).symm
            have o45 : a.tmps[45]?.getD undef = .int .i64 (alw q.1 q.2) := (Option.some.inj (hon 21 _ _ (by kernel_rfl) (by decide) rfl rfl rfl)).symm
            clear hon hoff
            rw [if_pos (by rfl)]
            go_simp
            refine (AR.out _).mono ?_
            rintro e v1 ⟨rfl, b1⟩
            exact hK _ _ rfl (Bl.trans hw b1) b1
          | 23, _ =>
            obtain rfl := Option.some.inj ho
            clear ho
            have o46 : a.tmps[46]?.getD undef = .agg #[.string (rt (zone q.1 q.2).x), .string (rt (zone q.1 q.2).y), .string (rt (zone q.1 q.2).s)] := (Option.some.inj (hon 22 _ _ (by kernel_rfl) (by decide) rfl rfl rfl)).symm
            clear hon hoff
            rw [if_pos (by rfl)]
            go_simp
            exact hK _ _ (Eq.mpr (if_pos rfl) ⟨rfl, by simp, heap_alloc_new _ _⟩) (Bl.trans hw ((Below.refl _ _).alloc (Nat.le_refl _) _)) ((Below.refl _ _).alloc (Nat.le_refl _) _)
          | i + 24, h => exact absurd h (by omega)
        · intro g v5 hw hR _
          obtain ⟨qn, qlt⟩ := hR 23 (by decide) rfl (by kernel_rfl)
          simp only [List.drop_succ_cons, List.drop_zero, RegT.puts, Act.put, List.setIfInBounds_toArray, List.set_cons_succ, List.set_cons_zero]
          have own3 := owns_below own2 hw
          have B3 := Bl.trans B2 hw
          clear wx wy wt hR qA qB
          go_wp2_with (at_builtin; refine wpList_append_lies _ rfl _ _ _ rfl W.heap.size 43 di dz 3 48 Tryz.underlying28 hi0 hz0 hs0 hb0 hc0 (by decide) _ k _ rfl own3 ⟨g 23, 0, none⟩ 1 1 [.string (rt (zone q.1 q.2).x), .string (rt (zone q.1 q.2).y), .string (rt (zone q.1 q.2).s)] rfl rfl (World.news_of_block qn) (by simp [Value.oneCell']) (by decide) (by unfold maxLen; omega) (by omega) B3.size (v5.heap.size) (by simp) ?_; intro g2 cap w6 hown5 hgrow hat hlt5)
          go_roundg (gk - 1)
          case measure => have := HM.out; omega
          case rel => exact ⟨k + 1, by have := HM.out; omega, by go_num, B3.grown hgrow B3.size (fun j e => (own3.lt j e).1), by rw [ET.out]; exact hown5⟩
      have n0 := World.new_ne wr _ e0
      have n1 := World.new_ne wr _ a0
      have n2 := World.new_ne wr _ d0
      have hA1 : ((wr.alloc (.cells #[.int .i64 q.1.x, .int .i64 q.1.y, .int .i64 q.1.lo, .int .i64 q.1.hi, .int .i64 q.1.tol, .int .i64 q.1.mat, .bool q.1.pin] 85)).alloc (.cells #[.int .i64 q.2.x, .int .i64 q.2.y, .int .i64 q.2.n] 75)).drew.heap[wr.heap.size]? = some (.cells #[.int .i64 q.1.x, .int .i64 q.1.y, .int .i64 q.1.lo, .int .i64 q.1.hi, .int .i64 q.1.tol, .int .i64 q.1.mat, .bool q.1.pin] 85) := blk_below (heap_alloc_new wr (.cells #[.int .i64 q.1.x, .int .i64 q.1.y, .int .i64 q.1.lo, .int .i64 q.1.hi, .int .i64 q.1.tol, .int .i64 q.1.mat, .bool q.1.pin] 85)) ((Below.refl _ _).alloc (Nat.le_refl _) (.cells #[.int .i64 q.2.x, .int .i64 q.2.y, .int .i64 q.2.n] 75)).drew
      have hB1 : ((wr.alloc (.cells #[.int .i64 q.1.x, .int .i64 q.1.y, .int .i64 q.1.lo, .int .i64 q.1.hi, .int .i64 q.1.tol, .int .i64 q.1.mat, .bool q.1.pin] 85)).alloc (.cells #[.int .i64 q.2.x, .int .i64 q.2.y, .int .i64 q.2.n] 75)).drew.heap[wr.heap.size + 1]? = some (.cells #[.int .i64 q.2.x, .int .i64 q.2.y, .int .i64 q.2.n] 75) := by
        have := heap_alloc_new (wr.alloc (.cells #[.int .i64 q.1.x, .int .i64 q.1.y, .int .i64 q.1.lo, .int .i64 q.1.hi, .int .i64 q.1.tol, .int .i64 q.1.mat, .bool q.1.pin] 85)) (.cells #[.int .i64 q.2.x, .int .i64 q.2.y, .int .i64 q.2.n] 75)
        rw [World.size_alloc] at this; exact this
      have hY1 : Below wr.heap.size wr ((wr.alloc (.cells #[.int .i64 q.1.x, .int .i64 q.1.y, .int .i64 q.1.lo, .int .i64 q.1.hi, .int .i64 q.1.tol, .int .i64 q.1.mat, .bool q.1.pin] 85)).alloc (.cells #[.int .i64 q.2.x, .int .i64 q.2.y, .int .i64 q.2.n] 75)).drew := (((Below.refl _ wr).alloc (Nat.le_refl _) (.cells #[.int .i64 q.1.x, .int .i64 q.1.y, .int .i64 q.1.lo, .int .i64 q.1.hi, .int .i64 q.1.tol, .int .i64 q.1.mat, .bool q.1.pin] 85)).alloc (by simp) (.cells #[.int .i64 q.2.x, .int .i64 q.2.y, .int .i64 q.2.n] 75)).drew
      have hB2 : ((wr.alloc (.cells #[.int .i64 q.2.x, .int .i64 q.2.y, .int .i64 q.2.n] 75)).alloc (.cells #[.int .i64 q.1.x, .int .i64 q.1.y, .int .i64 q.1.lo, .int .i64 q.1.hi, .int .i64 q.1.tol, .int .i64 q.1.mat, .bool q.1.pin] 85)).drew.heap[wr.heap.size]? = some (.cells #[.int .i64 q.2.x, .int .i64 q.2.y, .int .i64 q.2.n] 75) := blk_below (heap_alloc_new wr (.cells #[.int .i64 q.2.x, .int .i64 q.2.y, .int .i64 q.2.n] 75)) ((Below.refl _ _).alloc (Nat.le_refl _) (.cells #[.int .i64 q.1.x, .int .i64 q.1.y, .int .i64 q.1.lo, .int .i64 q.1.hi, .int .i64 q.1.tol, .int .i64 q.1.mat, .bool q.1.pin] 85)).drew
      have hA2 : ((wr.alloc (.cells #[.int .i64 q.2.x, .int .i64 q.2.y, .int .i64 q.2.n] 75)).alloc (.cells #[.int .i64 q.1.x, .int .i64 q.1.y, .int .i64 q.1.lo, .int .i64 q.1.hi, .int .i64 q.1.tol, .int .i64 q.1.mat, .bool q.1.pin] 85)).drew.heap[wr.heap.size + 1]? = some (.cells #[.int .i64 q.1.x, .int .i64 q.1.y, .int .i64 q.1.lo, .int .i64 q.1.hi, .int .i64 q.1.tol, .int .i64 q.1.mat, .bool q.1.pin] 85) := by
        have := heap_alloc_new (wr.alloc (.cells #[.int .i64 q.2.x, .int .i64 q.2.y, .int .i64 q.2.n] 75)) (.cells #[.int .i64 q.1.x, .int .i64 q.1.y, .int .i64 q.1.lo, .int .i64 q.1.hi, .int .i64 q.1.tol, .int .i64 q.1.mat, .bool q.1.pin] 85)
        rw [World.size_alloc] at this; exact this
      have hY2 : Below wr.heap.size wr ((wr.alloc (.cells #[.int .i64 q.2.x, .int .i64 q.2.y, .int .i64 q.2.n] 75)).alloc (.cells #[.int .i64 q.1.x, .int .i64 q.1.y, .int .i64 q.1.lo, .int .i64 q.1.hi, .int .i64 q.1.tol, .int .i64 q.1.mat, .bool q.1.pin] 85)).drew := (((Below.refl _ wr).alloc (Nat.le_refl _) (.cells #[.int .i64 q.2.x, .int .i64 q.2.y, .int .i64 q.2.n] 75)).alloc (by simp) (.cells #[.int .i64 q.1.x, .int .i64 q.1.y, .int .i64 q.1.lo, .int .i64 q.1.hi, .int .i64 q.1.tol, .int .i64 q.1.mat, .bool q.1.pin] 85)).drew
      have H1 := Lib.hid (And.intro hA1 (And.intro hB1 hY1))
      have H2 := Lib.hid (And.intro hA2 (And.intro hB2 hY2))
      have HC := Lib.hid hcont
      clear hA1 hB1 hY1 hA2 hB2 hY2 hcont q1 q3 hown
      go_region_held3 (fun m => m.cell? ⟨w.heap.size, 0, none⟩ = some (.slice (some ⟨b, o, none⟩) ts.length cp) ∧ m.cell? ⟨w.heap.size, 1, none⟩ = some (.slice (some ⟨b', o', none⟩) ts.length cp') ∧ m.cell? ⟨b, o + k * 7, none⟩ = some (.int .i64 q.1.x) ∧ m.cell? ⟨b, o + k * 7 + 1, none⟩ = some (.int .i64 q.1.y) ∧ m.cell? ⟨b, o + k * 7 + 2, none⟩ = some (.int .i64 q.1.lo) ∧ m.cell? ⟨b, o + k * 7 + 3, none⟩ = some (.int .i64 q.1.hi) ∧ m.cell? ⟨b, o + k * 7 + 4, none⟩ = some (.int .i64 q.1.tol) ∧ m.cell? ⟨b, o + k * 7 + 5, none⟩ = some (.int .i64 q.1.mat) ∧ m.cell? ⟨b, o + k * 7 + 6, none⟩ = some (.bool q.1.pin) ∧ m.cell? ⟨b', o' + k * 3, none⟩ = some (.int .i64 q.2.x) ∧ m.cell? ⟨b', o' + k * 3 + 1, none⟩ = some (.int .i64 q.2.y) ∧ m.cell? ⟨b', o' + k * 3 + 2, none⟩ = some (.int .i64 q.2.n)) (go_keep) (fail)
      all_goals
        show KK _ _
        first
          | exact HC.out _ _ _ H1.out.1 H1.out.2.1 H1.out.2.2
          | exact HC.out _ _ _ H2.out.1 H2.out.2.1 H2.out.2.2
    · have hk : k = ts.length := by omega
      clear hlt hmm
      subst hk
      rw [List.take_length] at hown
      have e2 : wr.cell? ⟨w.heap.size, 2, none⟩ = some (.int .i64 play) := cell_of_row wr _ 2 _ _ _ q3
      have hzl : (zl ts).length = ts.length := by unfold zl; simp
      have HZ := Lib.hid hzl
      clear hW hT hC hm1 hzl
      obtain ⟨hp1, hp2⟩ := HP.out
      by_cases hp : play < 0
      · have hzs : zs ts play = zl ts := by unfold zs zl; rw [if_pos hp]; simp
        have HS := Lib.hid hzs
        clear hzs hp1 hp2
        go_wp2_with fail
        go_ret
        exact ⟨⟨_, rfl, by rw [HS.out, HZ.out]; exact owns_mono hown bW.size⟩, Bl.trans bW hB⟩
      · have hzs : zs ts play = zl ts ++ [around 0 0 play] := by unfold zs zl; rw [if_neg hp]
        have AR := fun w => raround_c (x := 0) (y := 0) (d := play) (by decide) (by decide) (by omega) (by omega) w
        have HS := Lib.hid hzs
        have AR := Lib.hid AR
        have hn2 := hn
        clear hzs hp1 hp2
        go_wp2_with fail
        refine (AR.out _).mono ?_
        rintro e w3 ⟨rfl, b3⟩
        have B4 := Bl.trans hB b3
        have qn := heap_alloc_new w3 (.cells #[.string (rt (around 0 0 play).x), .string (rt (around 0 0 play).y), .string (rt (around 0 0 play).s)] 43)
        have own3 := owns_below (owns_below hown b3) ((Below.refl _ w3).alloc (Nat.le_refl _) (.cells #[.string (rt (around 0 0 play).x), .string (rt (around 0 0 play).y), .string (rt (around 0 0 play).s)] 43))
        have B5 := Bl.trans B4 ((Below.refl _ w3).alloc (Nat.le_refl _) (.cells #[.string (rt (around 0 0 play).x), .string (rt (around 0 0 play).y), .string (rt (around 0 0 play).s)] 43))
        go_wp2_with (at_builtin; refine wpList_append_lies _ rfl _ _ _ rfl W.heap.size 43 di dz 3 48 Tryz.underlying28 hi0 hz0 hs0 hb0 hc0 (by decide) _ ts.length _ rfl own3 ⟨w3.heap.size, 0, none⟩ 1 1 [.string (rt (around 0 0 play).x), .string (rt (around 0 0 play).y), .string (rt (around 0 0 play).s)] rfl rfl (World.news_of_block qn) (by simp [Value.oneCell']) (by decide) (by unfold maxLen; omega) (by omega) B5.size (w3.heap.size + 1) (by simp) ?_; intro g2 cap w6 hown5 hgrow hat hlt5)
        go_wp2_with fail
        go_ret
        exact ⟨⟨_, rfl, by
          rw [HS.out, List.length_append, HZ.out]
          have hd : dcs (zl ts ++ [around 0 0 play]) = dcs (zl ts) ++ [.string (rt (around 0 0 play).x), .string (rt (around 0 0 play).y), .string (rt (around 0 0 play).s)] := dcs_snoc _ _
          rw [hd]
          exact owns_mono hown5 bW.size⟩, Bl.trans bW (B5.grown hgrow B5.size (fun j e => (own3.lt j e).1))⟩
end Go.Proofs.YtdknneofiefieaaGreatDoor
