import Derived.Test.YtdknneofiefieaaGreatDoorLawA

namespace Go.Proofs.YtdknneofiefieaaGreatDoor
open Go.RowKit Go.Lib Rt Geo Sh

set_option maxRecDepth 100000 in
set_option maxHeartbeats 4000000 in
theorem enough_n {p p' : Option Addr} {n n' cp cp' : Nat} {play : Int} (w : World) (g : Gd w)
    (R : ∀ w', Below w.heap.size w w' → Calls Tryz.prog 31 #[.agg (tkg p n cp p' n' cp' play)] w' (RB (.bool false) w')) :
    Calls Tryz.prog 8 #[.agg (tkg p n cp p' n' cp' play)] w (RB (.bool true) w) := by
  unfold tkg at *
  obtain ⟨W, hW⟩ : ∃ W, w.alloc (.cells #[.slice p n cp, .slice p' n' cp', .int .i64 play] 25) = W := ⟨_, rfl⟩
  have q1 : W.heap[w.heap.size]? = some (.cells #[.slice p n cp, .slice p' n' cp', .int .i64 play] 25 (0, 0)) := hW ▸ heap_alloc_new w _
  have bW : Below w.heap.size w W := hW ▸ (Below.refl _ w).alloc (Nat.le_refl _) _
  have e0 : W.cell? ⟨w.heap.size, 0, none⟩ = some (.slice p n cp) := cell_of_row W _ 0 _ _ _ q1
  have e1 : W.cell? ⟨w.heap.size, 1, none⟩ = some (.slice p' n' cp') := cell_of_row W _ 1 _ _ _ q1
  have e2 : W.cell? ⟨w.heap.size, 2, none⟩ = some (.int .i64 play) := cell_of_row W _ 2 _ _ _ q1
  have RR := R W bW
  clear R
  go_enter Tryz.func8, Tryz.ntmps8
  go_wp2_with fail
  clear hW
  refine RR.mono ?_
  rintro e w1 ⟨rfl, b1⟩
  have B1 := Bl.trans bW b1
  have AA := awake_c w1 (g.below B1)
  go_wp2_with fail
  refine AA.mono ?_
  rintro e w2 ⟨rfl, b2⟩
  go_wp2_with fail
  go_ret
  exact ⟨rfl, Bl.trans B1 b2⟩

set_option maxRecDepth 100000 in
set_option maxHeartbeats 4000000 in
theorem enough_y {ts : List (Tg × Ci)} {b o b' o' n cp cp' : Nat} {play : Int} (h : Pok ts) (hl : ts.length = n) (hn : n ≤ 16) (p1 : -1 ≤ play) (p2 : play ≤ 100000) (w : World) (g : Gd w) (hm : PM w b o b' o' ts)
    (R : ∀ w', Below w.heap.size w w' → Calls Tryz.prog 31 #[.agg (tkv b o n cp b' o' cp' play)] w' (RB (.bool true) w')) :
    Calls Tryz.prog 8 #[.agg (tkv b o n cp b' o' cp' play)] w (RB (.bool true) w) := by
  have N := fun w' (hB : Below w.heap.size w w') => need_ex (cp := cp) (cp' := cp') (play := play) h hl hn p1 p2 w' (g.below hB) (hm.step hB)
  have F := fun w' (hB : Below w.heap.size w w') (q : Int) (r : Bool) (q1 : -1 ≤ q) (q2 : q ≤ 100000) (hr : feas (zs ts q) = r) => feas_ex (cp := cp) (cp' := cp') (play := q) h hl hn q1 q2 hr w' (g.below hB) (hm.step hB)
  have hfree : feas (zs ts 100000) = true → feas (zs ts (-1)) = true := fun hf => h.free (by decide) hf
  unfold tkv at *
  clear hm
  obtain ⟨W, hW⟩ : ∃ W, w.alloc (.cells #[.slice (some ⟨b, o, none⟩) n cp, .slice (some ⟨b', o', none⟩) n cp', .int .i64 play] 25) = W := ⟨_, rfl⟩
  have q1 : W.heap[w.heap.size]? = some (.cells #[.slice (some ⟨b, o, none⟩) n cp, .slice (some ⟨b', o', none⟩) n cp', .int .i64 play] 25 (0, 0)) := hW ▸ heap_alloc_new w _
  have bW : Below w.heap.size w W := hW ▸ (Below.refl _ w).alloc (Nat.le_refl _) _
  have e0 : W.cell? ⟨w.heap.size, 0, none⟩ = some (.slice (some ⟨b, o, none⟩) n cp) := cell_of_row W _ 0 _ _ _ q1
  have e1 : W.cell? ⟨w.heap.size, 1, none⟩ = some (.slice (some ⟨b', o', none⟩) n cp') := cell_of_row W _ 1 _ _ _ q1
  have e2 : W.cell? ⟨w.heap.size, 2, none⟩ = some (.int .i64 play) := cell_of_row W _ 2 _ _ _ q1
  have RR := R W bW
  have N := Lib.hid N
  have F := Lib.hid F
  clear R
  go_enter Tryz.func8, Tryz.ntmps8
  go_wp2_with fail
  clear hW
  refine RR.mono ?_
  rintro e w1 ⟨rfl, b1⟩
  have B1 := Bl.trans bW b1
  have q2 := blk_below q1 b1
  have NN := N.out w1 B1
  clear e0 e1 e2 q1
  have e0 : w1.cell? ⟨w.heap.size, 0, none⟩ = some (.slice (some ⟨b, o, none⟩) n cp) := cell_of_row w1 _ 0 _ _ _ q2
  have e1 : w1.cell? ⟨w.heap.size, 1, none⟩ = some (.slice (some ⟨b', o', none⟩) n cp') := cell_of_row w1 _ 1 _ _ _ q2
  have e2 : w1.cell? ⟨w.heap.size, 2, none⟩ = some (.int .i64 play) := cell_of_row w1 _ 2 _ _ _ q2
  go_wp2_with fail
  refine NN.mono ?_
  rintro e w2 ⟨hN, b2⟩
  have B2 := Bl.trans B1 b2
  have q3 := blk_below q2 b2
  clear e0 e1 e2 q2 NN
  have e0 : w2.cell? ⟨w.heap.size, 0, none⟩ = some (.slice (some ⟨b, o, none⟩) n cp) := cell_of_row w2 _ 0 _ _ _ q3
  have e1 : w2.cell? ⟨w.heap.size, 1, none⟩ = some (.slice (some ⟨b', o', none⟩) n cp') := cell_of_row w2 _ 1 _ _ _ q3
  have e2 : w2.cell? ⟨w.heap.size, 2, none⟩ = some (.int .i64 play) := cell_of_row w2 _ 2 _ _ _ q3
  have bX : Below w2.heap.size w2 (w2.alloc (.cells #[.slice (some ⟨b, o, none⟩) n cp, .slice (some ⟨b', o', none⟩) n cp', .int .i64 (-1)] 25)) := (Below.refl _ w2).alloc (Nat.le_refl _) _
  have qX := heap_alloc_new w2 (.cells #[.slice (some ⟨b, o, none⟩) n cp, .slice (some ⟨b', o', none⟩) n cp', .int .i64 (-1)] 25)
  have BX := Bl.trans B2 bX
  rcases hN with ⟨hf, rfl⟩ | ⟨hf, m, rfl, m0, m1, hm, hlow⟩
  · have F1 := F.out _ BX (-1) _ (by decide) (by decide) rfl
    go_wp2_with fail
    refine F1.mono ?_
    rintro e w3 ⟨⟨i, j, s, rfl⟩, b3⟩
    have B3 := Bl.trans BX b3
    have q4 := blk_below qX b3
    obtain ⟨X, hX⟩ : ∃ X, w3.alloc (.cells #[.int .i64 i, .int .i64 j, .int .i64 s] 53) = X := ⟨_, rfl⟩
    have b4 : Below w3.heap.size w3 X := hX ▸ (Below.refl _ w3).alloc (Nat.le_refl _) _
    have q5 := blk_below q4 b4
    have B4 := Bl.trans B3 b4
    have d0 : X.cell? ⟨w2.heap.size, 0, none⟩ = some (.slice (some ⟨b, o, none⟩) n cp) := cell_of_row X _ 0 _ _ _ q5
    have d1 : X.cell? ⟨w2.heap.size, 1, none⟩ = some (.slice (some ⟨b', o', none⟩) n cp') := cell_of_row X _ 1 _ _ _ q5
    have d2 : X.cell? ⟨w2.heap.size, 2, none⟩ = some (.int .i64 (-1)) := cell_of_row X _ 2 _ _ _ q5
    have d3 := frozen3 q5 2
    clear e0 e1 e2 F1
    have BY := B4.setCell (p := ⟨w2.heap.size, 2, none⟩) B2.size (.int .i64 100000)
    have F2 := F.out _ BY 100000 _ (by decide) (by decide) hf
    go_wp2_with fail
    clear hX
    refine F2.mono ?_
    rintro e w5 ⟨⟨i5, j5, s5, rfl⟩, b5⟩
    have B5 := Bl.trans BY b5
    have AA := awake_c w5 (g.below B5)
    go_wp2_with fail
    refine AA.mono ?_
    rintro e w6 ⟨rfl, b6⟩
    go_wp2_with fail
    go_ret
    exact ⟨rfl, Bl.trans B5 b6⟩
  · have F1 := F.out _ BX (-1) _ (by decide) (by decide) (hfree hf)
    go_wp2_with fail
    refine F1.mono ?_
    rintro e w3 ⟨⟨i, j, s, rfl⟩, b3⟩
    have B3 := Bl.trans BX b3
    have q4 := blk_below qX b3
    obtain ⟨X, hX⟩ : ∃ X, w3.alloc (.cells #[.int .i64 i, .int .i64 j, .int .i64 s] 53) = X := ⟨_, rfl⟩
    have b4 : Below w3.heap.size w3 X := hX ▸ (Below.refl _ w3).alloc (Nat.le_refl _) _
    have q5 := blk_below q4 b4
    have B4 := Bl.trans B3 b4
    have d0 : X.cell? ⟨w2.heap.size, 0, none⟩ = some (.slice (some ⟨b, o, none⟩) n cp) := cell_of_row X _ 0 _ _ _ q5
    have d1 : X.cell? ⟨w2.heap.size, 1, none⟩ = some (.slice (some ⟨b', o', none⟩) n cp') := cell_of_row X _ 1 _ _ _ q5
    have d2 : X.cell? ⟨w2.heap.size, 2, none⟩ = some (.int .i64 (-1)) := cell_of_row X _ 2 _ _ _ q5
    have d3 := frozen3 q5 2
    clear e0 e1 e2 F1
    have BY := B4.setCell (p := ⟨w2.heap.size, 2, none⟩) B2.size (.int .i64 m)
    have F2 := F.out _ BY m _ (by omega) m1 hm
    have q6 := heap_set3 (v := .int .i64 m) q5
    have hlow := Lib.hid hlow
    go_wp2_with fail
    clear hX
    refine F2.mono ?_
    rintro e w5 ⟨⟨i5, j5, s5, rfl⟩, b5⟩
    have B5 := Bl.trans BY b5
    have q7 := blk_below q6 b5
    clear d0 d1 d2 d3
    by_cases hm0 : m = 0
    · have AA := awake_c w5 (g.below B5)
      subst hm0
      go_wp2_with fail
      refine AA.mono ?_
      rintro e w6 ⟨rfl, b6⟩
      go_wp2_with fail
      go_ret
      exact ⟨rfl, Bl.trans B5 b6⟩
    · have hwm : IntKind.i64.wrap (m - 1) = m - 1 := IntWalk.i64_in _ (by omega)
      have d0 : w5.cell? ⟨w2.heap.size, 0, none⟩ = some (.slice (some ⟨b, o, none⟩) n cp) := cell_of_row w5 _ 0 _ _ _ q7
      have d1 : w5.cell? ⟨w2.heap.size, 1, none⟩ = some (.slice (some ⟨b', o', none⟩) n cp') := cell_of_row w5 _ 1 _ _ _ q7
      have d2 : w5.cell? ⟨w2.heap.size, 2, none⟩ = some (.int .i64 m) := cell_of_row w5 _ 2 _ _ _ q7
      have d3 := frozen3 q7 2
      have BZ := B5.setCell (p := ⟨w2.heap.size, 2, none⟩) B2.size (.int .i64 (m - 1))
      have F3 := F.out _ BZ (m - 1) _ (by omega) (by omega) (hlow.out (m - 1) (by omega) (by omega))
      go_wp2_with fail
      refine F3.mono ?_
      rintro e w6 ⟨⟨i6, j6, s6, rfl⟩, b6⟩
      have B6 := Bl.trans BZ b6
      have AA := awake_c w6 (g.below B6)
      go_wp2_with fail
      refine AA.mono ?_
      rintro e w7 ⟨rfl, b7⟩
      go_wp2_with fail
      go_ret
      exact ⟨rfl, Bl.trans B6 b7⟩

theorem enough_law {ts : List Tg} {cs : List Ci} {p p' : Option Addr} {cp cp' : Nat} {play : Int} (w : World) (g : Gd w) (hT : TL w p ts) (hC : CL w p' cs) :
    Calls Tryz.prog 8 #[.agg (tkg p ts.length cp p' cs.length cp' play)] w (RB (.bool true) w) := by
  have R := fun w' (hB : Below w.heap.size w w') => right_law (cp := cp) (cp' := cp') (play := play) w' (hT.step hB) (hC.step hB)
  cases hr : rgtb ts cs play with
  | false => rw [hr] at R; exact enough_n w g R
  | true =>
    rw [hr] at R
    obtain ⟨h, h4, hl, p1, p2⟩ := rgt_pok hr
    obtain ⟨b, o, b', o', rfl, rfl, hm⟩ := pm_of hT hC hl h.n
    rw [hl] at R ⊢
    exact enough_y h (zip_len hl) (by omega) p1 p2 w g hm R
end Go.Proofs.YtdknneofiefieaaGreatDoor
