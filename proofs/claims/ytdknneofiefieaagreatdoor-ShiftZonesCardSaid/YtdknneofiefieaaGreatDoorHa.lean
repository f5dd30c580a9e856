import Derived.Test.YtdknneofiefieaaGreatDoorGz

namespace Go.Proofs.YtdknneofiefieaaGreatDoor
open Go.RowKit Go.Lib Rt Geo Sh

set_option maxRecDepth 100000 in
set_option maxHeartbeats 1000000 in
theorem feasible_w {b o b' o' n cp cp' : Nat} {play : Int} {ok : Bool} {i j s : Int} (w : World) (g : Gd w) {R : Value → World → Prop}
    (Z : ∀ w', Below w.heap.size w w' → Gd w' → Calls Tryz.prog 14 #[.agg (tkv b o n cp b' o' cp' play)] w' fun e w'' => (∃ v, e = .returned (.tuple #[v, .int .i64 0]) ∧ R v w'') ∧ Below w'.heap.size w' w'')
    (C : ∀ v w', R v w' → Gd w' → Calls Tryz.prog 50 #[v] w' (RB (.tuple #[.bool ok, .agg #[.int .i64 i, .int .i64 j, .int .i64 s], .int .i64 0]) w')) :
    Calls Tryz.prog 24 #[.agg (tkv b o n cp b' o' cp' play)] w (RB (.tuple #[.bool ok, .agg #[.int .i64 i, .int .i64 j, .int .i64 s], .int .i64 0]) w) := by
  unfold tkv at *
  obtain ⟨W, hW⟩ : ∃ W, (w.alloc (.cells #[.slice (some ⟨b, o, none⟩) n cp, .slice (some ⟨b', o', none⟩) n cp', .int .i64 play] 25)).alloc (.cells #[.int .i64 0, .int .i64 0, .int .i64 0] 53) = W := ⟨_, rfl⟩
  have q1 : W.heap[w.heap.size]? = some (.cells #[.slice (some ⟨b, o, none⟩) n cp, .slice (some ⟨b', o', none⟩) n cp', .int .i64 play] 25 (0, 0)) := hW ▸ (Below.heap_alloc _ _ _ (by simp)).trans (heap_alloc_new w _)
  have q2 : W.heap[w.heap.size + 1]? = some (.cells #[.int .i64 0, .int .i64 0, .int .i64 0] 53 (0, 0)) := by
    have := heap_alloc_new (w.alloc (.cells #[.slice (some ⟨b, o, none⟩) n cp, .slice (some ⟨b', o', none⟩) n cp', .int .i64 play] 25 (0, 0))) (.cells #[.int .i64 0, .int .i64 0, .int .i64 0] 53 (0, 0))
    rw [World.size_alloc] at this
    rw [← hW]; exact this
  have bW : Below w.heap.size w W := hW ▸ ((Below.refl _ w).alloc (Nat.le_refl _) _).alloc (by simp) _
  have ZZ := Z W bW (g.below bW)
  have e0 : W.cell? ⟨w.heap.size, 0, none⟩ = some (.slice (some ⟨b, o, none⟩) n cp) := cell_of_row W _ 0 _ _ _ q1
  have e1 : W.cell? ⟨w.heap.size, 1, none⟩ = some (.slice (some ⟨b', o', none⟩) n cp') := cell_of_row W _ 1 _ _ _ q1
  have e2 : W.cell? ⟨w.heap.size, 2, none⟩ = some (.int .i64 play) := cell_of_row W _ 2 _ _ _ q1
  clear Z
  go_enter Tryz.func24, Tryz.ntmps24
  go_wp2_with fail
  clear hW
  refine ZZ.mono ?_
  rintro e w1 ⟨⟨v, rfl, hR⟩, b1⟩
  have B1 := Bl.trans bW b1
  have CC := C v w1 hR (g.below B1)
  clear e0 e1 e2 C
  go_wp2_with fail
  refine CC.mono ?_
  rintro e w2 ⟨rfl, b2⟩
  have B2 := Bl.trans B1 b2
  have q3 := blk_below (blk_below q2 b1) b2
  have r0 : w2.cell? ⟨w.heap.size + 1, 0, none⟩ = some (.int .i64 0) := cell_of_row w2 _ 0 _ _ _ q3
  have r1 : w2.cell? ⟨w.heap.size + 1, 1, none⟩ = some (.int .i64 0) := cell_of_row w2 _ 1 _ _ _ q3
  have r2 : w2.cell? ⟨w.heap.size + 1, 2, none⟩ = some (.int .i64 0) := cell_of_row w2 _ 2 _ _ _ q3
  have f0 : ∀ o, w2.frozen? ⟨w.heap.size + 1, o, none⟩ = false := fun o => by unfold World.frozen?; simp [q3]
  have k0 := f0 0
  have k1 := f0 1
  have k2 := f0 2
  clear f0
  go_wp2_with fail
  try simp only [Exit.then]
  refine bodyPost_ret (v := .tuple #[.bool ok, .agg #[.int .i64 i, .int .i64 j, .int .i64 s], .int .i64 0]) ?_ rfl ⟨rfl, ((B2.setCell (p := ⟨w.heap.size + 1, 0, none⟩) (by simp) _).setCell (p := ⟨w.heap.size + 1, 1, none⟩) (by simp) _).setCell (p := ⟨w.heap.size + 1, 2, none⟩) (by simp) _⟩
  simp [results, Tryz.f24, go_sem, r0, r1, r2]

theorem feasible_c {ts : List (Tg × Ci)} {b o b' o' cp cp' : Nat} {play : Int} (h : Pok ts) (hn : ts.length ≤ 16) (p1 : -1 ≤ play) (p2 : play ≤ 100000) (w : World) (g : Gd w) (hm : PM w b o b' o' ts) :
    Calls Tryz.prog 24 #[.agg (tkv b o ts.length cp b' o' cp' play)] w (RB (cmv (fw (zc (zs ts play)) (zs ts play).length)) w) := by
  have hds := h.ds p2
  have hlen : 1 ≤ (zs ts play).length := List.length_pos_iff.2 (zs_ne h.n play)
  have h64 : (zs ts play).length ≤ 64 := by
    unfold zs; rw [List.length_append, List.length_map]; split <;> simp <;> omega
  have Z := fun w' (hB : Below w.heap.size w w') (g' : Gd w') => (zones_c (cp := cp) (cp' := cp') h hn p1 p2 w' g' (hm.step hB)).mono (R' := fun e w'' => (∃ v, e = .returned (.tuple #[v, .int .i64 0]) ∧ ∃ base, w''.ownsRow base 43 3 v (zs ts play).length (dcs (zs ts play))) ∧ Below w'.heap.size w' w'') fun e w'' => by
    rintro ⟨⟨v, n, rfl, rfl, ho⟩, hb⟩
    exact ⟨⟨v, rfl, _, ho⟩, hb⟩
  have C : ∀ v w', (∃ base, w'.ownsRow base 43 3 v (zs ts play).length (dcs (zs ts play))) → Gd w' → Calls Tryz.prog 50 #[v] w' (RB (cmv (fw (zc (zs ts play)) (zs ts play).length)) w') := by
    rintro v w' ⟨base, ho⟩ g'
    obtain ⟨gg, cap, rfl, _, _⟩ := ho.form hlen
    refine common_c hlen h64 (fun k hk => ?_) w' g' (owns_dl ho rfl)
    rw [zc_get hk]
    exact hds _ (List.getElem_mem hk)
  cases hf : fw (zc (zs ts play)) (zs ts play).length with
  | none => rw [hf] at C; exact feasible_w w g Z C
  | some x => rw [hf] at C; exact feasible_w w g Z C
end Go.Proofs.YtdknneofiefieaaGreatDoor

namespace Go.Proofs.YtdknneofiefieaaGreatDoor
open Go.RowKit Go.Lib Rt Geo Sh

set_option maxRecDepth 100000 in
set_option maxHeartbeats 1000000 in
theorem enough_w {q : Nat} {v : Value} {play : Int} {ok : Bool} {i j s : Int} (w : World) (g : Gd w) (hq : w.heap[q]? = some (.cells #[v, .int .i64 0] 110 (0, 0))) {R : Value → World → Prop}
    (L : Calls Tryz.prog 41 #[v, .int .i64 play] w fun e w' => (∃ v', e = .returned (.tuple #[v', .int .i64 0]) ∧ R v' w') ∧ Below w.heap.size w w')
    (C : ∀ v w', R v w' → Gd w' → Calls Tryz.prog 50 #[v] w' (RB (.tuple #[.bool ok, .agg #[.int .i64 i, .int .i64 j, .int .i64 s], .int .i64 0]) w')) :
    Calls Tryz.prog 54 #[.pointer (some ⟨q, 0, none⟩), .int .i64 play] w (RB (.bool ok) w) := by
  have e0 : w.cell? ⟨q, 0, none⟩ = some v := cell_of_row w _ 0 _ _ _ hq
  go_enter Tryz.func54, Tryz.ntmps54
  go_wp2_with fail
  refine L.mono ?_
  rintro e w1 ⟨⟨v', rfl, hR⟩, b1⟩
  have CC := C v' w1 hR (g.below b1)
  clear C
  go_wp2_with fail
  refine CC.mono ?_
  rintro e w2 ⟨rfl, b2⟩
  go_wp2_with fail
  go_ret
  exact ⟨rfl, Bl.trans (Bl.trans b1 b2) ((Below.refl _ _).alloc (Nat.le_refl _) _)⟩

theorem enough_c {ts : List (Tg × Ci)} {q base : Nat} {v : Value} {play : Int} (h : Pok ts) (hn : ts.length ≤ 16) (p1 : 0 ≤ play) (p2 : play ≤ 100000) (w : World) (g : Gd w) (hq : w.heap[q]? = some (.cells #[v, .int .i64 0] 110 (0, 0)))
    (hown : w.ownsRow base 43 3 v ts.length (dcs (zl ts))) (hb : base ≤ w.heap.size) :
    Calls Tryz.prog 54 #[.pointer (some ⟨q, 0, none⟩), .int .i64 play] w (RB (.bool (feas (zs ts play))) w) := by
  have hds := h.ds p2
  have hlen : 1 ≤ (zs ts play).length := List.length_pos_iff.2 (zs_ne h.n play)
  have h64 : (zs ts play).length ≤ 64 := by
    unfold zs; rw [List.length_append, List.length_map]; split <;> simp <;> omega
  have hl : (zl ts).length = ts.length := by unfold zl; simp
  have hne : zl ts ≠ [] := by unfold zl; intro e; exact h.n (List.map_eq_nil_iff.1 e)
  rw [← hl] at hown
  have L := (slimited_c (play := play) hne (by omega) p2 w g hown hb).mono (R' := fun e w' => (∃ v', e = .returned (.tuple #[v', .int .i64 0]) ∧ ∃ base, w'.ownsRow base 43 3 v' (zs ts play).length (dcs (zs ts play))) ∧ Below w.heap.size w w') fun e w' => by
    rintro ⟨⟨v', n, rfl, rfl, ho⟩, hB⟩
    exact ⟨⟨v', rfl, _, ho⟩, hB⟩
  have C : ∀ v w', (∃ base, w'.ownsRow base 43 3 v (zs ts play).length (dcs (zs ts play))) → Gd w' → Calls Tryz.prog 50 #[v] w' (RB (cmv (fw (zc (zs ts play)) (zs ts play).length)) w') := by
    rintro v w' ⟨base, ho⟩ g'
    obtain ⟨gg, cap, rfl, _, _⟩ := ho.form hlen
    refine common_c hlen h64 (fun k hk => ?_) w' g' (owns_dl ho rfl)
    rw [zc_get hk]
    exact hds _ (List.getElem_mem hk)
  unfold feas
  cases hf : fw (zc (zs ts play)) (zs ts play).length with
  | none => rw [hf] at C; exact enough_w w g hq L C
  | some x => rw [hf] at C; exact enough_w w g hq L C
end Go.Proofs.YtdknneofiefieaaGreatDoor

namespace Go.Proofs.YtdknneofiefieaaGreatDoor
open Go.RowKit Go.Lib Rt Geo Sh

set_option maxRecDepth 100000 in
set_option maxHeartbeats 1000000 in
theorem least_c {q : Nat} {F : Int → Bool} (w : World) (hF : F 100000 = true) (hmono : ∀ p r, 0 ≤ p → p ≤ r → r ≤ 100000 → F p = true → F r = true)
    (E : ∀ p, 0 ≤ p → p ≤ 100000 → ∀ w', Below w.heap.size w w' → Calls Tryz.prog 54 #[.pointer (some ⟨q, 0, none⟩), .int .i64 p] w' (RB (.bool (F p)) w')) :
    Calls Tryz.prog 55 #[.int .i64 0, .int .i64 100000, .func (.func 54) #[.pointer (some ⟨q, 0, none⟩)] #[]] w fun e w' => (∃ n : Int, e = .returned (.int .i64 n) ∧ 0 ≤ n ∧ n ≤ 100000 ∧ F n = true ∧ ∀ p, 0 ≤ p → p < n → F p = false) ∧ Below w.heap.size w w' := by
  go_enter Tryz.func55, Tryz.ntmps55
  go_wp2_with fail
  go_loopg [0, 1, 7] 100001 (fun m x y _ wr => ∃ a b : Int, x = .int .i64 a ∧ y = .int .i64 b ∧ 0 ≤ a ∧ a ≤ b ∧ b ≤ 100000 ∧ b - a ≤ (m : Int) ∧ (∀ p, 0 ≤ p → p < a → F p = false) ∧ F b = true ∧ Below w.heap.size w wr)
  case atStart => exact ⟨0, 100000, rfl, rfl, by omega, by omega, by omega, by omega, fun p h1 h2 => by omega, hF, Below.refl _ _⟩
  case round =>
    obtain ⟨a, b, rfl, rfl, ha, hab, hb, hm, hall, hFb, hB⟩ := hrel
    by_cases hlt : a < b
    · have hw1 : IntKind.i64.wrap (a + b) = a + b := IntWalk.i64_in _ (by omega)
      obtain ⟨mid, hmid, h1, h2⟩ : ∃ mid : Int, (a + b).tdiv 2 = mid ∧ a ≤ mid ∧ mid < b := ⟨_, rfl, by rw [Int.tdiv_eq_ediv_of_nonneg (by omega)]; omega, by rw [Int.tdiv_eq_ediv_of_nonneg (by omega)]; omega⟩
      have hw2 : IntKind.i64.wrap mid = mid := IntWalk.i64_in _ (by omega)
      have hw3 : IntKind.i64.wrap (mid + 1) = mid + 1 := IntWalk.i64_in _ (by omega)
      have EE := E mid (by omega) (by omega) wr hB
      have HA := Lib.hid hall
      have HM := Lib.hid hm
      have HN := Lib.hid hmono
      clear E hall hm hmono
      cases hf : F mid with
      | true =>
        rw [hf] at EE
        go_wp2_with fail
        refine EE.mono ?_
        rintro e w1 ⟨rfl, b1⟩
        go_wp2_with fail
        go_roundg (gk - 1)
        case measure => have := HM.out; omega
        case rel => exact ⟨a, mid, rfl, rfl, ha, h1, by omega, by have := HM.out; omega, HA.out, hf, Bl.trans hB b1⟩
      | false =>
        rw [hf] at EE
        go_wp2_with fail
        refine EE.mono ?_
        rintro e w1 ⟨rfl, b1⟩
        go_wp2_with fail
        go_roundg (gk - 1)
        case measure => have := HM.out; omega
        case rel =>
          have low : ∀ p, 0 ≤ p → p < mid + 1 → F p = false := by
            intro p hp0 hp1
            cases hq : F p with
            | false => rfl
            | true => have := HN.out p mid hp0 (by omega) (by omega) hq; rw [hf] at this; cases this
          exact ⟨mid + 1, b, rfl, rfl, by omega, by omega, hb, by have := HM.out; omega, low, hFb, Bl.trans hB b1⟩
    · have he : a = b := by omega
      subst he
      clear E
      go_wp2_with fail
      go_ret
      exact ⟨⟨a, rfl, ha, hb, hFb, hall⟩, hB⟩
end Go.Proofs.YtdknneofiefieaaGreatDoor

namespace Go.Proofs.YtdknneofiefieaaGreatDoor
open Go.RowKit Go.Lib Rt Geo Sh

/-- what Needed returns -/
def NeR (ts : List (Tg × Ci)) (e : Ending) : Prop :=
  (feas (zs ts 100000) = false ∧ e = .returned (.tuple #[.int .i64 0, .int .i64 6])) ∨
  (feas (zs ts 100000) = true ∧ ∃ n : Int, e = .returned (.tuple #[.int .i64 n, .int .i64 0]) ∧ 0 ≤ n ∧ n ≤ 100000 ∧ feas (zs ts n) = true ∧ ∀ p, 0 ≤ p → p < n → feas (zs ts p) = false)

set_option maxRecDepth 100000 in
set_option maxHeartbeats 1000000 in
theorem needed_c {ts : List (Tg × Ci)} {b o b' o' cp cp' : Nat} {play : Int} (h : Pok ts) (hn : ts.length ≤ 16) (p1 : -1 ≤ play) (p2 : play ≤ 100000) (w : World) (g : Gd w) (hm : PM w b o b' o' ts) :
    Calls Tryz.prog 29 #[.agg (tkv b o ts.length cp b' o' cp' play)] w fun e w' => NeR ts e ∧ Below w.heap.size w w' := by
  obtain ⟨W, hWW⟩ : ∃ W, w.alloc (.cells (tkv b o ts.length cp b' o' cp' play) 25) = W := ⟨_, rfl⟩
  have q1 : W.heap[w.heap.size]? = some (.cells (tkv b o ts.length cp b' o' cp' play) 25 (0, 0)) := hWW ▸ heap_alloc_new w _
  have bW : Below w.heap.size w W := hWW ▸ (Below.refl _ w).alloc (Nat.le_refl _) _
  have hm1 := hm.step bW
  have C := sCheck_c (cp := cp) (cp' := cp') h hn p1 p2 W hm1
  unfold tkv at *
  have e0 : W.cell? ⟨w.heap.size, 0, none⟩ = some (.slice (some ⟨b, o, none⟩) ts.length cp) := cell_of_row W _ 0 _ _ _ q1
  have e1 : W.cell? ⟨w.heap.size, 1, none⟩ = some (.slice (some ⟨b', o', none⟩) ts.length cp') := cell_of_row W _ 1 _ _ _ q1
  have e2 : W.cell? ⟨w.heap.size, 2, none⟩ = some (.int .i64 play) := cell_of_row W _ 2 _ _ _ q1
  clear hm
  go_enter Tryz.func29, Tryz.ntmps29
  go_wp2_with fail
  clear hWW
  refine C.mono ?_
  rintro e w1 ⟨rfl, b1⟩
  have q2 := blk_below q1 b1
  have B1 := Bl.trans bW b1
  have hm2 := hm1.step b1
  have T := targets_c (cp := cp) (cp' := cp') (play := play) h hn w1 (g.below B1) hm2
  unfold tkv at T
  clear e0 e1 e2
  have e0 : w1.cell? ⟨w.heap.size, 0, none⟩ = some (.slice (some ⟨b, o, none⟩) ts.length cp) := cell_of_row w1 _ 0 _ _ _ q2
  have e1 : w1.cell? ⟨w.heap.size, 1, none⟩ = some (.slice (some ⟨b', o', none⟩) ts.length cp') := cell_of_row w1 _ 1 _ _ _ q2
  have e2 : w1.cell? ⟨w.heap.size, 2, none⟩ = some (.int .i64 play) := cell_of_row w1 _ 2 _ _ _ q2
  go_wp2_with fail
  refine T.mono ?_
  rintro e w2 ⟨⟨v, rfl, hown⟩, b2⟩
  have B2 := Bl.trans B1 b2
  have hlen : 1 ≤ ts.length := List.length_pos_iff.2 h.n
  obtain ⟨gg, cap, rfl, _, _⟩ := hown.form hlen
  obtain ⟨X, hX⟩ : ∃ X, w2.alloc (.cells #[.slice (some ⟨gg, 0, none⟩) ts.length cap, .int .i64 0] 110) = X := ⟨_, rfl⟩
  have bX : Below w2.heap.size w2 X := hX ▸ (Below.refl _ w2).alloc (Nat.le_refl _) _
  have hq : X.heap[w2.heap.size]? = some (.cells #[.slice (some ⟨gg, 0, none⟩) ts.length cap, .int .i64 0] 110 (0, 0)) := hX ▸ heap_alloc_new w2 _
  have own := owns_below hown bX
  have BX := Bl.trans B2 bX
  have E := fun p (h0 : 0 ≤ p) (h1 : p ≤ 100000) w' (hB : Below X.heap.size X w') => enough_c h hn h0 h1 w' (g.below (Bl.trans BX hB)) (blk_below hq hB) (owns_below own hB) (Nat.le_trans (Nat.le_trans b2.size bX.size) hB.size)
  have E1 := E 100000 (by decide) (by decide) X (Below.refl _ _)
  clear e0 e1 e2 C T
  cases hf : feas (zs ts 100000) with
  | false =>
    rw [hf] at E1
    go_wp2_with fail
    refine E1.mono ?_
    rintro e w3 ⟨rfl, b3⟩
    go_wp2_with fail
    go_ret2
    exact ⟨.inl ⟨hf, rfl⟩, Bl.trans BX b3⟩
  | true =>
    rw [hf] at E1
    go_wp2_with fail
    refine E1.mono ?_
    rintro e w3 ⟨rfl, b3⟩
    have L := least_c (q := w2.heap.size) (F := fun p => feas (zs ts p)) w3 hf (fun p r h0 h1 h2 h3 => h.more h0 h1 h2 h3) (fun p h0 h1 w' hB => E p h0 h1 w' (Bl.trans b3 hB))
    clear E
    go_wp2_with fail
    refine L.mono ?_
    rintro e w4 ⟨⟨n, rfl, n0, n1, n2, n3⟩, b4⟩
    have hq4 := blk_below (blk_below hq b3) b4
    have d1 : w4.cell? ⟨w2.heap.size, 1, none⟩ = some (.int .i64 0) := cell_of_row w4 _ 1 _ _ _ hq4
    have NN := Lib.hid n3
    clear n3
    go_wp2_with fail
    go_ret2
    exact ⟨.inr ⟨hf, n, rfl, n0, n1, n2, NN.out⟩, Bl.trans (Bl.trans BX b3) b4⟩
end Go.Proofs.YtdknneofiefieaaGreatDoor
