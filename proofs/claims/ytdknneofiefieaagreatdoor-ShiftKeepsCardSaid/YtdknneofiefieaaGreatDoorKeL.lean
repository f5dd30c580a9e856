import Derived.Test.YtdknneofiefieaaGreatDoorLawA
import Derived.Test.YtdknneofiefieaaGreatDoorFai
import Derived.Test.YtdknneofiefieaaGreatDoorClo
import Derived.Test.YtdknneofiefieaaGreatDoorKeP

namespace Go.Proofs.YtdknneofiefieaaGreatDoor
open Go.RowKit Go.Lib Rt Geo Sh

theorem heap_set0 {X : World} {f : Nat} {a b c v : Value} {t : TypeId} (h : X.heap[f]? = some (.cells #[a, b, c] t (0, 0))) : (X.setCell ⟨f, 0, none⟩ v).heap[f]? = some (.cells #[v, b, c] t (0, 0)) := by
  simp only [World.setCell, Array.getElem?_modify, h]
  simp
/-- the first target takes more tolerance -/
theorem tol_set {X : World} {g : Nat} {cur : Array Value} {t : Tg} {tr : List Tg} {v : Int} (_h : X.heap[g]? = some (.cells cur 85 (0, 0))) (hT : ∀ k q, (t :: tr)[k]? = some q → TA X g 0 k q) :
    ∀ k q, ({ t with tol := v } :: tr)[k]? = some q → TA (X.setCell ⟨g, 4, none⟩ (.int .i64 v)) g 0 k q := by
  intro k q hq
  have other : ∀ o u, o ≠ 4 → X.cell? ⟨g, o, none⟩ = some u → (X.setCell ⟨g, 4, none⟩ (.int .i64 v)).cell? ⟨g, o, none⟩ = some u := fun o u ho h => by
    rw [World.cell?_setCell_other _ _ _ _ (by intro e; cases e; exact ho rfl)]; exact h
  cases k with
  | zero =>
    simp at hq; subst hq
    have h0 := hT 0 t rfl
    refine ⟨other _ _ (by decide) h0.c0, other _ _ (by decide) h0.c1, other _ _ (by decide) h0.c2, other _ _ (by decide) h0.c3, ?_, other _ _ (by decide) h0.c5, other _ _ (by decide) h0.c6⟩
    exact World.cell?_setCell_same _ _ _ h0.c4
  | succ k =>
    have h0 := hT (k + 1) q (by simpa using hq)
    exact ⟨other _ _ (by omega) h0.c0, other _ _ (by omega) h0.c1, other _ _ (by omega) h0.c2, other _ _ (by omega) h0.c3, other _ _ (by omega) h0.c4, other _ _ (by omega) h0.c5, other _ _ (by omega) h0.c6⟩

set_option maxRecDepth 100000 in
set_option maxHeartbeats 8000000 in
theorem keeps_w {t0 : Tg} {tr : List Tg} {b o b' o' n nl cp cp' : Nat} {play play' m tol : Int} {ra rb rw rc : Bool} (w : World) (g : Gd w) (hn : (n : Int) ≤ 1000) (hn1 : (0 : Int) < (n : Int)) (htl : t0.tol = tol)
    (hm0 : 0 ≤ m) (hm1 : m ≤ 255) (hwt : IntKind.i64.wrap (tol + m) = tol + m) (hp : play < 0 ∧ play' = play ∨ 0 ≤ play ∧ IntKind.i64.wrap (play + m) = play')
    (hc : (ra = true ∧ rb = true) ∨ (ra = false ∧ rb = true) ∨ (ra = false ∧ rb = false)) (hnl : ((nl : Int) == 0) = ra) (hbc : rb = true → rc = true)
    (R : ∀ w', Below w.heap.size w w' → Calls Tryz.prog 31 #[.agg #[.slice (some ⟨b, o, none⟩) n cp, .slice (some ⟨b', o', none⟩) n cp', .int .i64 play]] w' (RB (.bool true) w'))
    (F0 : ∀ w', Below w.heap.size w w' → Calls Tryz.prog 24 #[.agg #[.slice (some ⟨b, o, none⟩) n cp, .slice (some ⟨b', o', none⟩) n cp', .int .i64 0]] w' fun e w'' => (∃ i j s : Int, e = .returned (.tuple #[.bool ra, .agg #[.int .i64 i, .int .i64 j, .int .i64 s], .int .i64 0])) ∧ Below w'.heap.size w' w'')
    (L : ∀ w', Below w.heap.size w w' → Calls Tryz.prog 37 #[.slice (some ⟨b, o, none⟩) n cp, .slice (some ⟨b', o', none⟩) n cp'] w' fun e w'' => (∃ p cap, e = .returned (.tuple #[.slice p nl cap, .int .i64 0])) ∧ Below w'.heap.size w' w'')
    (F1 : ∀ w', Below w.heap.size w w' → Calls Tryz.prog 24 #[.agg #[.slice (some ⟨b, o, none⟩) n cp, .slice (some ⟨b', o', none⟩) n cp', .int .i64 play]] w' fun e w'' => (∃ i j s : Int, e = .returned (.tuple #[.bool rb, .agg #[.int .i64 i, .int .i64 j, .int .i64 s], .int .i64 0])) ∧ Below w'.heap.size w' w'')
    (C : ∀ w', Below w.heap.size w w' → Calls Tryz.prog 38 #[.slice (some ⟨b, o, none⟩) n cp] w' fun e w'' => (∃ g cap cur, e = .returned (.slice (some ⟨g, 0, none⟩) n cap) ∧ w'.heap.size ≤ g ∧ w''.heap[g]? = some (.cells cur 85 (0, 0)) ∧ ∀ k t, (t0 :: tr)[k]? = some t → TA w'' g 0 k t) ∧ Below w'.heap.size w' w'')
    (R2 : ∀ w' gg cap, Below w.heap.size w w' → (∀ k t, (moreT t0 m :: tr)[k]? = some t → TA w' gg 0 k t) → Calls Tryz.prog 31 #[.agg #[.slice (some ⟨gg, 0, none⟩) n cap, .slice (some ⟨b', o', none⟩) n cp', .int .i64 play']] w' (RB (.bool rw) w'))
    (F2 : ∀ w' gg cap, Below w.heap.size w w' → rw = true → (∀ k t, (moreT t0 m :: tr)[k]? = some t → TA w' gg 0 k t) → Calls Tryz.prog 24 #[.agg #[.slice (some ⟨gg, 0, none⟩) n cap, .slice (some ⟨b', o', none⟩) n cp', .int .i64 play']] w' fun e w'' => (∃ i j s : Int, e = .returned (.tuple #[.bool rc, .agg #[.int .i64 i, .int .i64 j, .int .i64 s], .int .i64 0])) ∧ Below w'.heap.size w' w'') :
    Calls Tryz.prog 11 #[.agg #[.slice (some ⟨b, o, none⟩) n cp, .slice (some ⟨b', o', none⟩) n cp', .int .i64 play], .int .u8 m] w (RB (.bool true) w) := by
  have hcv : IntKind.i64.wrap m = m := IntWalk.i64_in _ (by omega)
  obtain ⟨W, hW⟩ : ∃ W, w.alloc (.cells #[.slice (some ⟨b, o, none⟩) n cp, .slice (some ⟨b', o', none⟩) n cp', .int .i64 play] 25) = W := ⟨_, rfl⟩
  have q1 : W.heap[w.heap.size]? = some (.cells #[.slice (some ⟨b, o, none⟩) n cp, .slice (some ⟨b', o', none⟩) n cp', .int .i64 play] 25 (0, 0)) := hW ▸ heap_alloc_new w _
  have bW : Below w.heap.size w W := hW ▸ (Below.refl _ w).alloc (Nat.le_refl _) _
  have EE : ∀ X : World, X.heap[w.heap.size]? = some (.cells #[.slice (some ⟨b, o, none⟩) n cp, .slice (some ⟨b', o', none⟩) n cp', .int .i64 play] 25 (0, 0)) → X.cell? ⟨w.heap.size, 0, none⟩ = some (.slice (some ⟨b, o, none⟩) n cp) ∧ X.cell? ⟨w.heap.size, 1, none⟩ = some (.slice (some ⟨b', o', none⟩) n cp') ∧ X.cell? ⟨w.heap.size, 2, none⟩ = some (.int .i64 play) := fun X h =>
    ⟨cell_of_row X _ 0 _ _ _ h, cell_of_row X _ 1 _ _ _ h, cell_of_row X _ 2 _ _ _ h⟩
  obtain ⟨e0, e1, e2⟩ := EE W q1
  have RR := R W bW
  have EE := Lib.hid EE
  have F0 := Lib.hid F0
  have F1 := Lib.hid F1
  have F2 := Lib.hid F2
  have L := Lib.hid L
  have C := Lib.hid C
  have R2 := Lib.hid R2
  have hbc := Lib.hid hbc
  have htl := Lib.hid htl
  clear R
  rcases hp with ⟨hp, rfl⟩ | ⟨hp, hwp⟩
  all_goals rcases hc with ⟨rfl, rfl⟩ | ⟨rfl, rfl⟩ | ⟨rfl, rfl⟩
  all_goals
    go_enter Tryz.func11, Tryz.ntmps11
    go_wp2_with fail
    clear hW
    refine RR.mono ?_
    rintro e w1 ⟨rfl, b1⟩
    have B1 := Bl.trans bW b1
    have q2 := blk_below q1 b1
    clear e0 e1 e2
    obtain ⟨e0, e1, e2⟩ := EE.out w1 q2
    have bX1 : Below w1.heap.size w1 (w1.alloc (.cells #[.slice (some ⟨b, o, none⟩) n cp, .slice (some ⟨b', o', none⟩) n cp', .int .i64 0] 25)) := (Below.refl _ w1).alloc (Nat.le_refl _) _
    have FF0 := F0.out _ (Bl.trans B1 bX1)
    go_wp2_with fail
    refine FF0.mono ?_
    rintro e w2 ⟨⟨i2, j2, s2, rfl⟩, b2⟩
    have B2 := Bl.trans (Bl.trans B1 bX1) b2
    have bX2 : Below w2.heap.size w2 (w2.alloc (.cells #[.int .i64 i2, .int .i64 j2, .int .i64 s2] 53)) := (Below.refl _ w2).alloc (Nat.le_refl _) _
    have BX2 := Bl.trans B2 bX2
    have q3 := blk_below (blk_below (blk_below q2 bX1) b2) bX2
    clear e0 e1 e2 FF0
    obtain ⟨e0, e1, e2⟩ := EE.out _ q3
    have LL := L.out _ BX2
    go_wp2_with fail
    refine LL.mono ?_
    rintro e w3 ⟨⟨lp, lc, rfl⟩, b3⟩
    have B3 := Bl.trans BX2 b3
    have q4 := blk_below q3 b3
    clear e0 e1 e2 LL
    obtain ⟨e0, e1, e2⟩ := EE.out _ q4
    have FF1 := F1.out _ B3
    go_wp2_with fail
    refine FF1.mono ?_
    rintro e w4 ⟨⟨i4, j4, s4, rfl⟩, b4⟩
    have B4 := Bl.trans B3 b4
    obtain ⟨X, hX⟩ : ∃ X, w4.alloc (.cells #[.int .i64 i4, .int .i64 j4, .int .i64 s4] 53) = X := ⟨_, rfl⟩
    have bX : Below w4.heap.size w4 X := hX ▸ (Below.refl _ w4).alloc (Nat.le_refl _) _
    have BX := Bl.trans B4 bX
    have q5 := blk_below (blk_below q4 b4) bX
    clear e0 e1 e2 FF1
    obtain ⟨e0, e1, e2⟩ := EE.out _ q5
    have b5 : Below X.heap.size X (X.alloc (.cells #[.slice (some ⟨b, o, none⟩) n cp, .slice (some ⟨b', o', none⟩) n cp', .int .i64 play'] 25)) := (Below.refl _ X).alloc (Nat.le_refl _) _
    have qf := heap_alloc_new X (.cells #[.slice (some ⟨b, o, none⟩) n cp, .slice (some ⟨b', o', none⟩) n cp', .int .i64 play'] 25)
    have B5 := Bl.trans BX b5
    have CC := C.out _ B5
    have q6 := blk_below q5 b5
    go_wp2_with fail
    clear hX
    refine CC.mono ?_
    rintro e w6 ⟨⟨gg, cap, cur, rfl, hgg, hgb, hTA⟩, b6⟩
    have B6 := Bl.trans B5 b6
    have qg := blk_below qf b6
    have hfg : X.heap.size ≠ gg := by rw [World.size_alloc] at hgg; omega
    have hX0 : w.heap.size ≤ X.heap.size := BX.size
    have hg0 : w.heap.size ≤ gg := Nat.le_trans B5.size hgg
    have c0 := cell_of_row w6 _ 0 _ _ _ qg
    have c1 := cell_of_row w6 _ 1 _ _ _ qg
    have c2 := cell_of_row w6 _ 2 _ _ _ qg
    simp only [List.getElem?_toArray, List.getElem?_cons_zero, List.getElem?_cons_succ] at c0 c1 c2
    have k0 := frozen3 qg 0
    obtain ⟨Y, hY⟩ : ∃ Y, w6.setCell ⟨X.heap.size, 0, none⟩ (.slice (some ⟨gg, 0, none⟩) n cap) = Y := ⟨_, rfl⟩
    have BY : Below w.heap.size w Y := hY ▸ B6.setCell (p := ⟨X.heap.size, 0, none⟩) hX0 _
    have qy : Y.heap[X.heap.size]? = some (.cells #[.slice (some ⟨gg, 0, none⟩) n cap, .slice (some ⟨b', o', none⟩) n cp', .int .i64 play'] 25 (0, 0)) := hY ▸ heap_set0 qg
    have hyb : Y.heap[gg]? = some (.cells cur 85 (0, 0)) := by rw [← hY, Below.heap_setCell _ _ _ _ (Ne.symm hfg)]; exact hgb
    have hyT : ∀ k t, (t0 :: tr)[k]? = some t → TA Y gg 0 k t := fun k t hk => by
      have h := hTA k t hk
      have oth : ∀ o u, w6.cell? ⟨gg, o, none⟩ = some u → Y.cell? ⟨gg, o, none⟩ = some u := fun o u hu => by
        rw [← hY, World.cell?_setCell_other _ _ _ _ (by intro e; cases e; exact hfg rfl)]; exact hu
      exact ⟨oth _ _ h.c0, oth _ _ h.c1, oth _ _ h.c2, oth _ _ h.c3, oth _ _ h.c4, oth _ _ h.c5, oth _ _ h.c6⟩
    have y0 : Y.cell? ⟨X.heap.size, 0, none⟩ = some (.slice (some ⟨gg, 0, none⟩) n cap) := cell_of_row Y _ 0 _ _ _ qy
    have y1 : Y.cell? ⟨X.heap.size, 1, none⟩ = some (.slice (some ⟨b', o', none⟩) n cp') := cell_of_row Y _ 1 _ _ _ qy
    have y2 : Y.cell? ⟨X.heap.size, 2, none⟩ = some (.int .i64 play') := cell_of_row Y _ 2 _ _ _ qy
    have y4 : Y.cell? ⟨gg, 4, none⟩ = some (.int .i64 tol) := by rw [← htl.out]; exact (hyT 0 t0 rfl).c4
    have k4 : Y.frozen? ⟨gg, 4, none⟩ = false := by unfold World.frozen?; simp [hyb]
    have BZ := BY.setCell (p := ⟨gg, 4, none⟩) hg0 (.int .i64 (tol + m))
    have hzT : ∀ k t, (moreT t0 m :: tr)[k]? = some t → TA (Y.setCell ⟨gg, 4, none⟩ (.int .i64 (tol + m))) gg 0 k t := by
      have := tol_set (v := tol + m) hyb hyT
      rw [← htl.out] at this ⊢
      exact this
    have qz : (Y.setCell ⟨gg, 4, none⟩ (.int .i64 (tol + m))).heap[X.heap.size]? = some (.cells #[.slice (some ⟨gg, 0, none⟩) n cap, .slice (some ⟨b', o', none⟩) n cp', .int .i64 play'] 25 (0, 0)) := by
      rw [Below.heap_setCell _ _ _ _ hfg]; exact qy
    have RZ := R2.out _ gg cap BZ hzT
    have hzT := Lib.hid hzT
    clear e0 e1 e2 qg qy hyb hyT hTA hgb CC
    go_wp2_with fail
    clear hY y0 y1 y2 y4 k0 k4 c0 c1 c2
    rcases rw with _ | _
    · refine RZ.mono ?_
      rintro e w7 ⟨rfl, b7⟩
      have B7 := Bl.trans BZ b7
      have AA := awake_c w7 (g.below B7)
      go_wp2_with fail
      refine AA.mono ?_
      rintro e w8 ⟨rfl, b8⟩
      go_wp2_with fail
      go_ret
      exact ⟨rfl, Bl.trans B7 b8⟩
    · refine RZ.mono ?_
      rintro e w7 ⟨rfl, b7⟩
      have B7 := Bl.trans BZ b7
      have q9 := blk_below qz b7
      have FZ := F2.out w7 gg cap B7 rfl (fun k t hk => (hzT.out k t hk).step b7)
      have y0 : w7.cell? ⟨X.heap.size, 0, none⟩ = some (.slice (some ⟨gg, 0, none⟩) n cap) := cell_of_row w7 _ 0 _ _ _ q9
      have y1 : w7.cell? ⟨X.heap.size, 1, none⟩ = some (.slice (some ⟨b', o', none⟩) n cp') := cell_of_row w7 _ 1 _ _ _ q9
      have y2 : w7.cell? ⟨X.heap.size, 2, none⟩ = some (.int .i64 play') := cell_of_row w7 _ 2 _ _ _ q9
      try (have hrc := hbc.out rfl; subst hrc)
      go_wp2_with fail
      refine FZ.mono ?_
      rintro e w8 ⟨⟨i8, j8, s8, rfl⟩, b8⟩
      have b9 : Below w8.heap.size w8 (w8.alloc (.cells #[.int .i64 i8, .int .i64 j8, .int .i64 s8] 53)) := (Below.refl _ w8).alloc (Nat.le_refl _) _
      have B9 := Bl.trans (Bl.trans B7 b8) b9
      have AA := awake_c _ (g.below B9)
      clear y0 y1 y2 FZ
      go_wp2_with fail
      refine AA.mono ?_
      rintro e w10 ⟨rfl, b10⟩
      go_wp2_with fail
      go_ret
      exact ⟨rfl, Bl.trans B9 b10⟩
end Go.Proofs.YtdknneofiefieaaGreatDoor
