/- A region that draws its order: each operation is looked at once, under what is known of the operations it waits for. -/
import Derived.WalkKit
import Derived.RegionTactic
import Derived.Below

namespace Go.Reg
open Go Go.RowKit

variable {P : Program} {ops : Array Oper} {Q : Exit → Act → World → Prop} {T : Nat}

/-- all edges that bind go back; from T on each operation waits for all before it -/
def okEdges (ops : Array Oper) (T : Nat) : Bool :=
  (List.range ops.size).all fun j => match ops[j]? with
    | none => true
    | some o => (o.after.all fun e => !Region.binds .any e || decide (e.on < j)) && (decide (j < T) || (List.range j).all fun i => o.after.toList.any fun e => Region.binds .any e && e.on == i)
/-- the operations before T write different slots, all of them within the frame -/
def okDsts (ops : Array Oper) (T n : Nat) : Bool :=
  (List.range T).all fun i => match (ops[i]?).bind (·.dst) with
    | none => true
    | some d => decide (d < n) && (List.range T).all fun j => decide (i = j) || (ops[j]?).bind (·.dst) != some d

theorem okEdges_back {T j : Nat} {o : Oper} (h : okEdges ops T = true) (ho : ops[j]? = some o) : ∀ e ∈ o.after, Region.binds .any e = true → e.on < j := by
  intro e he hb
  have hj : j < ops.size := (Array.getElem?_eq_some_iff.1 ho).1
  have := List.all_eq_true.1 h j (List.mem_range.2 hj)
  simp only [ho, Bool.and_eq_true] at this
  have h1 := Array.all_eq_true_iff_forall_mem.1 this.1 e he
  simp only [hb, Bool.not_true, Bool.false_or, decide_eq_true_eq] at h1
  exact h1
theorem okEdges_tail {T j : Nat} {o : Oper} (h : okEdges ops T = true) (ho : ops[j]? = some o) (hT : T ≤ j) : ∀ i, i < j → ∃ e ∈ o.after, Region.binds .any e = true ∧ e.on = i := by
  intro i hi
  have hj : j < ops.size := (Array.getElem?_eq_some_iff.1 ho).1
  have := List.all_eq_true.1 h j (List.mem_range.2 hj)
  simp only [ho, Bool.and_eq_true, Bool.or_eq_true, decide_eq_true_eq] at this
  have h2 := this.2.resolve_left (by omega)
  have h3 := List.all_eq_true.1 h2 i (List.mem_range.2 hi)
  obtain ⟨e, he, h4⟩ := List.any_eq_true.1 h3
  simp only [Bool.and_eq_true, beq_iff_eq] at h4
  exact ⟨e, Array.mem_toList_iff.1 he, h4.1, h4.2⟩
theorem okDsts_lt {T n i d : Nat} {o : Oper} (h : okDsts ops T n = true) (hi : i < T) (ho : ops[i]? = some o) (hd : o.dst = some d) : d < n := by
  have := List.all_eq_true.1 h i (List.mem_range.2 hi)
  simp only [ho, Option.bind_some, hd, Bool.and_eq_true, decide_eq_true_eq] at this
  exact this.1
theorem okDsts_ne {T n i j d : Nat} {o o' : Oper} (h : okDsts ops T n = true) (hi : i < T) (ho : ops[i]? = some o) (hd : o.dst = some d) (hj : j < T) (ho' : ops[j]? = some o') (hne : i ≠ j) : o'.dst ≠ some d := by
  have := List.all_eq_true.1 h i (List.mem_range.2 hi)
  simp only [ho, Option.bind_some, hd, Bool.and_eq_true] at this
  have h2 := List.all_eq_true.1 this.2 j (List.mem_range.2 hj)
  simp only [ho', Option.bind_some, Bool.or_eq_true, decide_eq_true_eq, bne_iff_ne] at h2
  exact h2.resolve_left hne

/-- the tail goes in its order -/
theorem tail_any (h : okEdges ops T = true) : ∀ (m k : Nat), T ≤ k → k + m = ops.size → ∀ (fuel : Nat), m ≤ fuel → ∀ (listed : Array Bool) (a : Act) (w : World), listed.size = ops.size → (∀ i, i < ops.size → listed.getD i false = decide (i < k)) →
    wpOps P ops Q (List.range' k m) a w → wpAny P .any ops Q fuel listed a w := by
  intro m
  induction m with
  | zero =>
    intro k hk hs fuel _ listed a w hz hl hw
    have hr : Region.ready .any ops listed = [] := by
      rw [List.eq_nil_iff_forall_not_mem]
      intro j hj
      obtain ⟨h0, o, ho, _⟩ := mem_ready.1 hj
      have hlt : j < ops.size := (Array.getElem?_eq_some_iff.1 ho).1
      have := hl j hlt
      rw [decide_eq_true (by omega)] at this
      simp [hz, hlt] at h0 this
      rw [h0] at this; cases this
    cases fuel with
    | zero => exact ⟨hr, hw⟩
    | succ fuel => exact ⟨fun _ => hw, fun i hi => by rw [hr] at hi; cases hi⟩
  | succ m ih =>
    intro k hk hs fuel hf listed a w hz hl hw
    obtain ⟨fuel, rfl⟩ : ∃ f, fuel = f + 1 := ⟨fuel - 1, by omega⟩
    have hklt : k < ops.size := by omega
    have hko : ops[k]? = some ops[k] := Array.getElem?_eq_getElem hklt
    have hkr : k ∈ Region.ready .any ops listed := by
      rw [mem_ready]
      refine ⟨?_, _, hko, fun e he hb => ?_⟩
      · have := hl k hklt
        rw [decide_eq_false (by omega)] at this
        simp [hz, hklt] at this ⊢; exact this
      · have hlt := okEdges_back h hko e he hb
        rw [hl e.on (by omega)]; exact decide_eq_true hlt
    have honly : ∀ j ∈ Region.ready .any ops listed, j = k := by
      intro j hj
      obtain ⟨h0, o, ho, hall⟩ := mem_ready.1 hj
      have hlt : j < ops.size := (Array.getElem?_eq_some_iff.1 ho).1
      have h1 : ¬ j < k := by
        intro hjk
        have := hl j hlt
        rw [decide_eq_true hjk] at this
        simp [hz, hlt] at h0 this
        rw [h0] at this; cases this
      refine Classical.byContradiction fun hne => ?_
      obtain ⟨e, he, hb, hon⟩ := okEdges_tail h ho (by omega) k (by omega)
      have h2 := hall e he hb
      rw [hon, hl k hklt, decide_eq_false (by omega)] at h2
      cases h2
    refine ⟨fun hr => (by rw [hr] at hkr; cases hkr), fun j hj => ?_⟩
    obtain rfl := honly j hj
    rw [List.range'_succ, wpOps_cons] at hw
    refine wpOp_mono (fun a' w' h' => ?_) hw
    refine ih (j + 1) (by omega) (by omega) fuel (by omega) _ a' w' (by simpa using hz) (fun i hi => ?_) h'
    by_cases hij : j = i
    · subst hij
      rw [decide_eq_true (by omega)]
      simp [hz, hi]
    · have := hl i hi
      simp only [Array.getD_eq_getD_getElem?] at this ⊢
      rw [Array.getElem?_setIfInBounds_ne hij, this]
      exact decide_eq_decide.2 (by omega)

/-- how many are not listed -/
def left (listed : Array Bool) : Nat := (listed.toList.filter (! ·)).length
theorem left_set {listed : Array Bool} {i : Nat} (h : listed.getD i true = false) : left (listed.setIfInBounds i true) < left listed := by
  unfold left
  rw [Array.toList_setIfInBounds]
  have hi : listed.toList[i]? = some false := by
    rw [Array.getElem?_toList]
    cases h1 : listed[i]? with
    | none => simp [h1] at h
    | some b => simp [h1] at h; rw [h]
  generalize listed.toList = l at *
  clear h
  induction l generalizing i with
  | nil => simp at hi
  | cons x t ih =>
    cases i with
    | zero => simp at hi; subst hi; simp
    | succ i =>
      simp at hi
      have := ih hi
      simp only [List.set_cons_succ, List.filter_cons]
      split <;> simp <;> omega

/-- every operation before T keeps I; behind them the tail -/
theorem wpAny_inv {T : Nat} (h : okEdges ops T = true) (hT : T ≤ ops.size) (I : Array Bool → Act → World → Prop)
    (hstep : ∀ i, i < T → ∀ listed a w, i ∈ Region.ready .any ops listed → listed.size = ops.size → I listed a w → wpOp P ops Q i (I (listed.setIfInBounds i true)) a w)
    (htail : ∀ listed a w, (∀ i, i < T → listed.getD i false = true) → I listed a w → wpOps P ops Q (List.range' T (ops.size - T)) a w) :
    ∀ (fuel : Nat) (listed : Array Bool) (a : Act) (w : World), listed.size = ops.size → (∀ i, T ≤ i → i < ops.size → listed.getD i false = false) → left listed ≤ fuel → I listed a w → wpAny P .any ops Q fuel listed a w := by
  intro fuel
  induction fuel with
  | zero =>
    intro listed a w hz hl hf hI
    have hall : ∀ i, i < ops.size → listed.getD i false = true := by
      intro i hi
      cases hv : listed.getD i false with
      | true => rfl
      | false =>
        have h1 : listed.getD i true = false := by simp [hz, hi] at hv ⊢; exact hv
        have := left_set h1
        omega
    have hTe : T = ops.size := by
      refine Classical.byContradiction fun hne => ?_
      have := hl T (Nat.le_refl _) (by omega)
      rw [hall T (by omega)] at this; cases this
    refine tail_any h (ops.size - T) T (Nat.le_refl _) (by omega) 0 (by omega) listed a w hz (fun i hi => ?_) (htail listed a w (fun i hi => hall i (by omega)) hI)
    rw [hall i hi, decide_eq_true (by omega)]
  | succ fuel ih =>
    intro listed a w hz hl hf hI
    by_cases hall : ∀ i, i < T → listed.getD i false = true
    · have hcount : ops.size - T ≤ fuel + 1 := by
        refine Nat.le_trans ?_ hf
        -- the unlisted ones are those from T on
        have : ∀ (m : Nat) (l : List Bool), l.length = T + m → (∀ i, T ≤ i → i < T + m → l[i]? = some false) → m ≤ (l.filter (! ·)).length := by
          intro m l hlen hfal
          have h1 : (l.drop T).filter (! ·) = l.drop T := by
            rw [List.filter_eq_self]
            intro x hx
            obtain ⟨k, hk, rfl⟩ := List.mem_iff_getElem.1 hx
            rw [List.length_drop] at hk
            have := hfal (T + k) (by omega) (by omega)
            rw [List.getElem_drop]
            rw [List.getElem?_eq_getElem (by omega)] at this
            simp at this
            simp [this]
          have h2 : (l.filter (! ·)).length ≥ ((l.drop T).filter (! ·)).length := by
            conv => lhs; rw [← List.take_append_drop T l]
            rw [List.filter_append, List.length_append]; omega
          rw [h1, List.length_drop] at h2
          omega
        unfold left
        refine this (ops.size - T) listed.toList (by simp [hz]; omega) (fun i h1 h2 => ?_)
        have := hl i h1 (by omega)
        rw [Array.getElem?_toList]
        have hi : i < listed.size := by omega
        simp [hi] at this ⊢; exact this
      refine tail_any h (ops.size - T) T (Nat.le_refl _) (by omega) (fuel + 1) hcount listed a w hz (fun i hi => ?_) (htail listed a w hall hI)
      by_cases hiT : i < T
      · rw [hall i hiT, decide_eq_true hiT]
      · rw [hl i (by omega) hi, decide_eq_false hiT]
    · -- somebody before T is ready
      have hex : ∃ i, i < T ∧ listed.getD i false = false := by
        refine Classical.byContradiction fun hn => hall fun i hi => ?_
        cases hv : listed.getD i false with
        | true => rfl
        | false => exact (hn ⟨i, hi, hv⟩).elim
      have hmin : ∃ i, (i < T ∧ listed.getD i false = false) ∧ ∀ j, j < i → ¬ (j < T ∧ listed.getD j false = false) := by
        obtain ⟨i, hi⟩ := hex
        induction i using Nat.strongRecOn with
        | _ i ihi =>
          by_cases hs : ∃ j, j < i ∧ (j < T ∧ listed.getD j false = false)
          · obtain ⟨j, hj, hjp⟩ := hs; exact ihi j hj hjp
          · exact ⟨i, hi, fun j hj hp => hs ⟨j, hj, hp⟩⟩
      obtain ⟨i, ⟨hiT, hif⟩, hbelow⟩ := hmin
      have hilt : i < ops.size := by omega
      have hir : i ∈ Region.ready .any ops listed := by
        rw [mem_ready]
        refine ⟨by simp [hz, hilt] at hif ⊢; exact hif, _, Array.getElem?_eq_getElem hilt, fun e he hb => ?_⟩
        have hlt := okEdges_back h (Array.getElem?_eq_getElem hilt) e he hb
        cases hv : listed.getD e.on false with
        | true => rfl
        | false => exact (hbelow e.on hlt ⟨by omega, hv⟩).elim
      refine ⟨fun hr => (by rw [hr] at hir; cases hir), fun j hj => ?_⟩
      obtain ⟨hj0, o, ho, hjall⟩ := mem_ready.1 hj
      have hjlt : j < ops.size := (Array.getElem?_eq_some_iff.1 ho).1
      have hjT : j < T := by
        refine Classical.byContradiction fun hn => ?_
        obtain ⟨e, he, hb, hon⟩ := okEdges_tail h ho (by omega) i (by omega)
        have := hjall e he hb
        rw [hon, hif] at this; cases this
      refine wpOp_mono (fun a' w' hI' => ?_) (hstep j hjT listed a w hj hz hI)
      refine ih _ a' w' (by simpa using hz) (fun k hk hkl => ?_) (by have := left_set hj0; omega) hI'
      have hne : j ≠ k := by omega
      have := hl k hk hkl
      simp only [Array.getD_eq_getD_getElem?] at this ⊢
      rw [Array.getElem?_setIfInBounds_ne hne]
      exact this

/-- what is known of the frame and the world when these are listed -/
structure Fr (ops : Array Oper) (T : Nat) (al : Nat → Bool) (a0 : Act) (E : Nat → World → Value → Prop) (Wi : World → Prop) (listed : Array Bool) (a : Act) (w : World) : Prop where
  d : a.defers = a0.defers
  z : a.tmps.size = a0.tmps.size
  on : ∀ i o d, i < T → ops[i]? = some o → o.dst = some d → listed.getD i false = true → E i w (a.tmps.getD d undef)
  off : ∀ d, (∀ i o, i < T → ops[i]? = some o → o.dst ≠ some d) → a.tmps.getD d undef = a0.tmps.getD d undef
  wi : Wi w
  ne : ∀ i j oi oj di dj, i < T → j < T → i ≠ j → al i = true → al j = true → ops[i]? = some oi → ops[j]? = some oj → oi.dst = some di → oj.dst = some dj →
    listed.getD i false = true → listed.getD j false = true → a.tmps.getD di undef ≠ a.tmps.getD dj undef

/-- the walk of a region that draws its order -/
theorem region {id : Nat} {a0 : Act} {w0 : World} (hm : P.follows .mixedOrders = true) (T : Nat) (h : okEdges ops T = true) (hT : T ≤ ops.size) (hD : okDsts ops T a0.tmps.size = true)
    (al : Nat → Bool) (E : Nat → World → Value → Prop) (Wi : World → Prop) (hAl : ∀ i w v, al i = true → E i w v → ∃ g, v = .pointer (some ⟨g, 0, none⟩) ∧ g < w.heap.size) (h0 : Wi w0.drew) (hE : ∀ i w w' v, E i w v → Below w.heap.size w w' → E i w' v)
    (hstep : ∀ i o, i < T → ops[i]? = some o → ∀ a w, a.defers = a0.defers → Wi w →
      (∀ j oj d, (∃ e ∈ o.after, Region.binds .any e = true ∧ e.on = j) → j < T → ops[j]? = some oj → oj.dst = some d → E j w (a.tmps.getD d undef)) →
      (∀ d, (∀ i o, i < T → ops[i]? = some o → o.dst ≠ some d) → a.tmps.getD d undef = a0.tmps.getD d undef) →
      ∀ K : Act → World → Prop, (∀ v w', E i w' v → (al i = true → v = .pointer (some ⟨w.heap.size, 0, none⟩)) → Wi w' → Below w.heap.size w w' → K (a.put o.dst v) w') →
        if Region.wanted o (yielded ops a.tmps) = true then Oper.wp P o a w K Q else K (a.put o.dst undef) w)
    (hend : ∀ a w, a.defers = a0.defers → a.tmps.size = a0.tmps.size → Wi w → (∀ i o d, i < T → ops[i]? = some o → o.dst = some d → E i w (a.tmps.getD d undef)) →
      (∀ i j oi oj di dj, i < T → j < T → i ≠ j → al i = true → al j = true → ops[i]? = some oi → ops[j]? = some oj → oi.dst = some di → oj.dst = some dj → a.tmps.getD di undef ≠ a.tmps.getD dj undef) →
      (∀ d, (∀ i o, i < T → ops[i]? = some o → o.dst ≠ some d) → a.tmps.getD d undef = a0.tmps.getD d undef) → wpList P ops Q (ops.toList.drop T) a w) :
    (Code.region id ops true).wp P Q a0 w0 := by
  refine wp_region_any hm ?_
  show wpAny P .any ops Q ops.size (Array.replicate ops.size false) a0 w0.drew
  refine wpAny_inv h hT (Fr ops T al a0 E Wi) ?_ ?_ _ _ _ _ (by simp) (fun i _ hi => by simp [hi]) ?_ ⟨rfl, rfl, fun i o d _ ho _ hl => ?_, fun _ _ => rfl, h0, fun i j oi oj di dj _ _ _ _ _ ho _ _ _ hl _ => ?_⟩
  · intro i hi listed a w hr hz hF
    obtain ⟨hl0, o, ho, hall⟩ := mem_ready.1 hr
    refine wpOp_step ho fun K' hK' => ?_
    refine hstep i o hi ho a w hF.d hF.wi (fun j oj d hj hjT hoj hd => ?_) hF.off K' (fun v w' hv hal hw' hB => hK' _ _ ?_)
    · obtain ⟨e, he, hb, rfl⟩ := hj
      exact hF.on e.on oj d hjT hoj hd (hall e he hb)
    · have hput : (a.put o.dst v).tmps.size = a0.tmps.size := by
        cases hd : o.dst <;> simp [Act.put, hF.z]
      have keep : ∀ (j : Nat) (oj : Oper) (d : Nat), j < T → ops[j]? = some oj → oj.dst = some d → i ≠ j → (a.put o.dst v).tmps.getD d undef = a.tmps.getD d undef := by
        intro j oj d hjT hoj hd hij
        cases hdi : o.dst with
        | none => rfl
        | some di =>
          have hne : oj.dst ≠ some di := okDsts_ne hD hi ho hdi hjT hoj hij
          have hdd : di ≠ d := by intro e; subst e; exact hne hd
          simp only [Act.put]
          rw [Array.getD_eq_getD_getElem?, Array.getElem?_setIfInBounds_ne hdd, ← Array.getD_eq_getD_getElem?]
      have mine : ∀ d, o.dst = some d → (a.put o.dst v).tmps.getD d undef = v := by
        intro d hd
        have hlt := okDsts_lt hD hi ho hd
        rw [← hF.z] at hlt
        simp only [Act.put, hd]
        rw [Array.getD_eq_getD_getElem?, Array.getElem?_setIfInBounds_self_of_lt hlt]; rfl
      have old : ∀ j, i ≠ j → (listed.setIfInBounds i true).getD j false = true → listed.getD j false = true := by
        intro j hij hl
        simp only [Array.getD_eq_getD_getElem?] at hl ⊢
        rwa [Array.getElem?_setIfInBounds_ne hij] at hl
      refine ⟨by cases hd : o.dst <;> simp [Act.put, hF.d], hput, fun j oj d hjT hoj hd hl => ?_, fun d hno => ?_, hw', ?_⟩
      rotate_left 2
      · have fresh : ∀ j oj dj, j < T → i ≠ j → al i = true → al j = true → ops[j]? = some oj → oj.dst = some dj → (listed.setIfInBounds i true).getD j false = true → a.tmps.getD dj undef ≠ v := by
          intro j oj dj hjT hij hai haj hoj hdj hlj e
          obtain ⟨g, hg, hlt⟩ := hAl j w _ haj (hF.on j oj dj hjT hoj hdj (old j hij hlj))
          rw [hal hai, hg] at e
          injection e with e; injection e with e; injection e with e
          omega
        intro j k oj ok dj dk hjT hkT hjk haj hak hoj hok hdj hdk hlj hlk
        by_cases hij : i = j
        · subst hij
          rw [ho] at hoj; cases hoj
          rw [mine dj hdj, keep k ok dk hkT hok hdk hjk]
          exact (fresh k ok dk hkT hjk haj hak hok hdk hlk).symm
        · by_cases hik : i = k
          · subst hik
            rw [ho] at hok; cases hok
            rw [mine dk hdk, keep j oj dj hjT hoj hdj hij]
            exact fresh j oj dj hjT hij hak haj hoj hdj hlj
          · rw [keep j oj dj hjT hoj hdj hij, keep k ok dk hkT hok hdk hik]
            exact hF.ne j k oj ok dj dk hjT hkT hjk haj hak hoj hok hdj hdk (old j hij hlj) (old k hik hlk)
      · by_cases hij : i = j
        · subst hij
          rw [ho] at hoj; cases hoj
          have hlt := okDsts_lt hD hi ho hd
          rw [← hF.z] at hlt
          simp only [Act.put, hd]
          rw [Array.getD_eq_getD_getElem?, Array.getElem?_setIfInBounds_self_of_lt hlt]
          exact hv
        · have hl' : listed.getD j false = true := by
            simp only [Array.getD_eq_getD_getElem?] at hl ⊢
            rwa [Array.getElem?_setIfInBounds_ne hij] at hl
          have h1 := hE j w w' _ (hF.on j oj d hjT hoj hd hl') hB
          cases hdi : o.dst with
          | none => simpa [Act.put, hdi] using h1
          | some di =>
            have hne : oj.dst ≠ some di := okDsts_ne hD hi ho hdi hjT hoj hij
            have hdd : di ≠ d := by intro e; subst e; exact hne hd
            simp only [Act.put]
            rw [Array.getD_eq_getD_getElem?, Array.getElem?_setIfInBounds_ne hdd, ← Array.getD_eq_getD_getElem?]
            exact h1
      · cases hdi : o.dst with
        | none => simpa [Act.put, hdi] using hF.off d hno
        | some di =>
          have hdd : di ≠ d := by intro e; subst e; exact hno i o hi ho hdi
          simp only [Act.put]
          rw [Array.getD_eq_getD_getElem?, Array.getElem?_setIfInBounds_ne hdd, ← Array.getD_eq_getD_getElem?]
          exact hF.off d hno
  · intro listed a w hall hF
    have := wpOps_eq_wpList (P := P) (ops := ops) (Q := Q) (ops.toList.drop T) T (fun j => by rw [List.getElem?_drop, Array.getElem?_toList])
    rw [List.length_drop, Array.length_toList] at this
    rw [this]
    exact hend a w hF.d hF.z hF.wi (fun i o d hi ho hd => hF.on i o d hi ho hd (hall i hi))
      (fun i j oi oj di dj hi hj hij hai haj hoi hoj hdi hdj => hF.ne i j oi oj di dj hi hj hij hai haj hoi hoj hdi hdj (hall i hi) (hall j hj)) hF.off
  · unfold left; simp
  · have hlt : i < ops.size := (Array.getElem?_eq_some_iff.1 ho).1
    simp [hlt] at hl
  · have hlt : i < ops.size := (Array.getElem?_eq_some_iff.1 ho).1
    simp [hlt] at hl

/-- the operation waits for number j -/
def waits (o : Oper) (j : Nat) : Bool := o.after.toList.any fun e => Region.binds .any e && e.on == j
theorem waits_ex {o : Oper} {j : Nat} (h : waits o j = true) : ∃ e ∈ o.after, Region.binds .any e = true ∧ e.on = j := by
  obtain ⟨e, he, h4⟩ := List.any_eq_true.1 h
  simp only [Bool.and_eq_true, beq_iff_eq] at h4
  exact ⟨e, Array.mem_toList_iff.1 he, h4.1, h4.2⟩
theorem yielded_of {j d : Nat} {tm : Array Value} {b : Bool} (hd : (ops[j]?).bind (·.dst) = some d) (h : tm[d]?.getD undef = .bool b) : yielded ops tm j = some b := by
  unfold yielded
  rw [hd]
  simp only [Option.bind_some]
  cases e : tm[d]? with
  | none => rw [e] at h; cases h
  | some v => rw [e] at h; simp at h; subst h; rfl
theorem guard_yes {o : Oper} {j d : Nat} {tm : Array Value} {b : Bool} (hg : o.guard = some (j, b)) (hd : (ops[j]?).bind (·.dst) = some d) (h : tm[d]?.getD undef = .bool b) : Region.wanted o (yielded ops tm) = true := by
  unfold Region.wanted; rw [hg]
  simp only [yielded_of hd h]; simp
theorem guard_no {o : Oper} {j d : Nat} {tm : Array Value} {b : Bool} (hg : o.guard = some (j, !b)) (hd : (ops[j]?).bind (·.dst) = some d) (h : tm[d]?.getD undef = .bool b) : ¬ Region.wanted o (yielded ops tm) = true := by
  unfold Region.wanted; rw [hg]
  simp only [yielded_of hd h]; cases b <;> simp
/-- values are put into slots -/
def puts : Act → List (Option Tmp × Value) → Act
  | a, [] => a
  | a, p :: l => puts (a.put p.1 p.2) l
theorem puts_defers (l : List (Option Tmp × Value)) : ∀ a : Act, (puts a l).defers = a.defers := by
  induction l with
  | nil => intro a; rfl
  | cons p l ih => intro a; rw [puts, ih]; cases h : p.1 <;> simp [Act.put]
theorem puts_size (l : List (Option Tmp × Value)) : ∀ a : Act, (puts a l).tmps.size = a.tmps.size := by
  induction l with
  | nil => intro a; rfl
  | cons p l ih => intro a; rw [puts, ih]; cases h : p.1 <;> simp [Act.put]
theorem puts_off (l : List (Option Tmp × Value)) (d : Nat) : ∀ a : Act, (∀ p ∈ l, p.1 ≠ some d) → (puts a l).tmps.getD d undef = a.tmps.getD d undef := by
  induction l with
  | nil => intro a _; rfl
  | cons p l ih =>
    intro a h
    rw [puts, ih _ (fun q hq => h q (List.mem_cons_of_mem _ hq))]
    have h1 := h p (by simp)
    cases hp : p.1 with
    | none => rfl
    | some d' =>
      have hne : d' ≠ d := by intro e; subst e; exact h1 hp
      simp only [Act.put]
      rw [Array.getD_eq_getD_getElem?, Array.getElem?_setIfInBounds_ne hne, ← Array.getD_eq_getD_getElem?]
theorem puts_on (l : List (Option Tmp × Value)) (d : Nat) (v : Value) : ∀ (a : Act) (i : Nat), d < a.tmps.size → l[i]? = some (some d, v) → (∀ (j : Nat) (p : Option Tmp × Value), l[j]? = some p → j ≠ i → p.1 ≠ some d) → (puts a l).tmps.getD d undef = v := by
  induction l with
  | nil => intro a i _ h; simp at h
  | cons p l ih =>
    intro a i hd h hne
    rw [puts]
    cases i with
    | zero =>
      simp at h; subst h
      rw [puts_off l d _ (fun q hq => by
        obtain ⟨j, hj, rfl⟩ := List.mem_iff_getElem.1 hq
        exact hne (j + 1) _ (by rw [List.getElem?_cons_succ, List.getElem?_eq_getElem hj]) (by omega))]
      simp only [Act.put]
      rw [Array.getD_eq_getD_getElem?, Array.getElem?_setIfInBounds_self_of_lt hd]; rfl
    | succ i =>
      refine ih _ i (by cases hp : p.1 <;> simpa [Act.put] using hd) (by simpa using h) (fun j q hj hji => hne (j + 1) q (by simpa using hj) (by omega))

/-- the walk of a region that draws its order; L: the slots of the operations before T, with what they hold behind them; R: what is known of the block of an alloc (operation k; its letter is g) -/
theorem walk {id : Nat} {a0 : Act} {w0 : World} (hm : P.follows .mixedOrders = true) (T : Nat) (h : okEdges ops T = true) (hT : T ≤ ops.size) (hD : okDsts ops T a0.tmps.size = true)
    (al : Nat → Bool) (L : (Nat → Nat) → List (Option Tmp × Value)) (hL : ∀ g, (L g).map (·.1) = (ops.toList.take T).map (·.dst)) (hk : ∀ g i, al i = false → (L g)[i]? = (L fun _ => 0)[i]?)
    (hkv : ∀ g i, i < T → al i = true → ((L g)[i]?).map (·.2) = some (.pointer (some ⟨g i, 0, none⟩)))
    (R : Nat → Nat → World → Prop) (hR : ∀ i g w w', R i g w → Below w.heap.size w w' → R i g w')
    (Wi : World → Prop) (h0 : Wi w0.drew)
    (hstep : ∀ i o, i < T → ops[i]? = some o → ∀ (Q' : Exit → Act → World → Prop) a w, Wi w →
      (∀ j oj d, waits o j = true → j < T → ops[j]? = some oj → oj.dst = some d → al j = false → ((L fun _ => 0)[j]?).map (·.2) = some (a.tmps[d]?.getD undef)) →
      (∀ d, ((ops.toList.take T).all fun o => o.dst != some d) = true → a.tmps[d]?.getD undef = a0.tmps[d]?.getD undef) →
      ∀ K : Act → World → Prop, (∀ v w', (if al i = true then v = .pointer (some ⟨w.heap.size, 0, none⟩) ∧ w.heap.size < w'.heap.size ∧ R i w.heap.size w' else ((L fun _ => 0)[i]?).map (·.2) = some v) → Wi w' → Below w.heap.size w w' → K (a.put o.dst v) w') →
        if Region.wanted o (yielded ops a.tmps) = true then Oper.wp P o a w K Q' else K (a.put o.dst undef) w)
    (hend : ∀ g w, Wi w → (∀ i, i < T → al i = true → (((ops[i]?).bind (·.dst)).isSome = true) → R i (g i) w ∧ g i < w.heap.size) → (∀ i j, i < T → j < T → al i = true → al j = true → i ≠ j → ((ops[i]?).bind (·.dst)).isSome = true → ((ops[j]?).bind (·.dst)).isSome = true → g i ≠ g j) → wpList P ops Q (ops.toList.drop T) (puts a0 (L g)) w) :
    (Code.region id ops true).wp P Q a0 w0 := by
  refine region hm T h hT hD al (fun i w v => if al i = true then ∃ g, v = .pointer (some ⟨g, 0, none⟩) ∧ g < w.heap.size ∧ R i g w else ((L fun _ => 0)[i]?).map (·.2) = some v) Wi ?_ h0 ?_ ?_ ?_
  · intro i w v hi hv
    rw [if_pos hi] at hv
    obtain ⟨g, h1, h2, _⟩ := hv
    exact ⟨g, h1, h2⟩
  · intro i w w' v hv hB
    split
    · rename_i e; rw [if_pos e] at hv
      obtain ⟨g, h1, h2, h3⟩ := hv
      exact ⟨g, h1, Nat.lt_of_lt_of_le h2 hB.size, hR i g w w' h3 hB⟩
    · rename_i e; rw [if_neg e] at hv; exact hv
  · intro i o hi ho a w _ hw hon hoff K hK
    refine hstep i o hi ho Q a w hw (fun j oj d hj hjT hoj hd hjk => ?_) (fun d hd => ?_) K (fun v w' hv hw' hB => hK v w' ?_ ?_ hw' hB)
    · have := hon j oj d (waits_ex hj) hjT hoj hd
      rw [if_neg (by rw [hjk]; decide)] at this
      rw [← Array.getD_eq_getD_getElem?]; exact this
    · rw [← Array.getD_eq_getD_getElem?, ← Array.getD_eq_getD_getElem?]
      refine hoff d fun j oj hj hoj e => ?_
      have := List.all_eq_true.1 hd oj (by
        rw [List.mem_iff_getElem?]
        exact ⟨j, by rw [List.getElem?_take, if_pos hj, Array.getElem?_toList]; exact hoj⟩)
      rw [e] at this; simp at this
    · split
      · rename_i e; rw [if_pos e] at hv; exact ⟨_, hv.1, hv.2.1, hv.2.2⟩
      · rename_i e; rw [if_neg e] at hv; exact hv
    · intro e; rw [if_pos e] at hv; exact hv.1
  · intro a w hd hz hw hon hne hoff
    have hlen : ∀ g, (L g).length = T := fun g => by
      have := congrArg List.length (hL g)
      simp at this; omega
    -- the letters
    obtain ⟨g, hg⟩ : ∃ g : Nat → Nat, ∀ i o d, i < T → al i = true → ops[i]? = some o → o.dst = some d → a.tmps.getD d undef = .pointer (some ⟨g i, 0, none⟩) ∧ g i < w.heap.size ∧ R i (g i) w := by
      refine ⟨fun i => match (ops[i]?).bind (·.dst) with
        | some d => match a.tmps.getD d undef with
          | .pointer (some ⟨g, _, _⟩) => g
          | _ => 0
        | none => 0, fun i o d hi hai ho hod => ?_⟩
      have h1 := hon i o d hi ho hod
      rw [if_pos hai] at h1
      obtain ⟨g, h2, h3, h4⟩ := h1
      simp only [ho, Option.bind_some, hod, h2]
      exact ⟨trivial, h3, h4⟩
    have hval : ∀ i o d, i < T → ops[i]? = some o → o.dst = some d → ((L g)[i]?).map (·.2) = some (a.tmps.getD d undef) := by
      intro i o d hi ho hod
      cases hai : al i with
      | true => rw [(hg i o d hi hai ho hod).1]; exact hkv g i hi hai
      | false =>
        have := hon i o d hi ho hod
        rw [if_neg (by rw [hai]; decide)] at this
        rw [hk g i hai]; exact this
    have hLd : ∀ (i : Nat) (p : Option Tmp × Value), (L g)[i]? = some p → ∃ o, ops[i]? = some o ∧ i < T ∧ o.dst = p.1 := by
      intro i p hp
      have h1 := congrArg (·[i]?) (hL g)
      simp only [List.getElem?_map, hp, Option.map_some] at h1
      rw [List.getElem?_take] at h1
      split at h1
      · rename_i hi
        rw [Array.getElem?_toList] at h1
        cases ho : ops[i]? with
        | none => rw [ho] at h1; cases h1
        | some o =>
          rw [ho] at h1
          simp at h1
          exact ⟨o, rfl, hi, h1.symm⟩
      · cases h1
    have ea : a = puts a0 (L g) := by
      have e1 : a.defers = (puts a0 (L g)).defers := by rw [puts_defers, hd]
      have e2 : a.tmps = (puts a0 (L g)).tmps := by
        refine Array.ext (by rw [puts_size, hz]) fun d h1 h2 => ?_
        have key : a.tmps.getD d undef = (puts a0 (L g)).tmps.getD d undef := by
          by_cases hex : ∃ i o, i < T ∧ ops[i]? = some o ∧ o.dst = some d
          · obtain ⟨i, o, hi, ho, hod⟩ := hex
            have hv := hval i o d hi ho hod
            cases hp : (L g)[i]? with
            | none => rw [hp] at hv; cases hv
            | some p =>
              rw [hp] at hv
              simp at hv
              obtain ⟨o', ho', _, hpd⟩ := hLd i p hp
              rw [ho] at ho'; cases ho'
              refine (puts_on (L g) d _ a0 i (by rw [← hz]; exact h1) (by rw [hp]; congr 1; exact Prod.ext (by rw [← hpd, hod]) (by simpa using hv)) (fun j q hq hji => ?_)).symm
              obtain ⟨oj, hoj, hjT, hjd⟩ := hLd j q hq
              rw [← hjd]
              exact okDsts_ne hD hi ho hod hjT hoj (Ne.symm hji)
          · rw [hoff d (fun i o hi ho e => hex ⟨i, o, hi, ho, e⟩), puts_off]
            intro p hp e
            obtain ⟨j, hj, rfl⟩ := List.mem_iff_getElem.1 hp
            obtain ⟨oj, hoj, hjT, hjd⟩ := hLd j _ (List.getElem?_eq_getElem hj)
            exact hex ⟨j, oj, hjT, hoj, by rw [hjd, e]⟩
        simpa [h1, h2] using key
      cases a; cases hp : puts a0 (L g)
      rw [hp] at e1 e2
      simp at e1 e2
      rw [e1, e2]
    rw [ea]
    refine hend g w hw (fun i hi hai hs => ?_) (fun i j hi hj hai haj hij hsi hsj e => ?_)
    · obtain ⟨d, hd'⟩ := Option.isSome_iff_exists.1 hs
      cases ho : ops[i]? with
      | none => rw [ho] at hd'; cases hd'
      | some o =>
        rw [ho] at hd'
        have := hg i o d hi hai ho hd'
        exact ⟨this.2.2, this.2.1⟩
    · obtain ⟨d, hd'⟩ := Option.isSome_iff_exists.1 hsi
      obtain ⟨d2, hd2⟩ := Option.isSome_iff_exists.1 hsj
      cases ho : ops[i]? with
      | none => rw [ho] at hd'; cases hd'
      | some o =>
        cases ho2 : ops[j]? with
        | none => rw [ho2] at hd2; cases hd2
        | some o2 =>
          rw [ho] at hd'; rw [ho2] at hd2
          refine hne i j o o2 d d2 hi hj hij hai haj ho ho2 hd' hd2 ?_
          rw [(hg i o d hi hai ho hd').1, (hg j o2 d2 hj haj ho2 hd2).1, e]
end Go.Reg
