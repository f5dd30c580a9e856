import Derived.Test.YtdknneofiefieaaGreatDoorKeL

namespace Go.Proofs.YtdknneofiefieaaGreatDoor
open Go.RowKit Go.Lib Rt Geo Sh

set_option maxRecDepth 100000 in
set_option maxHeartbeats 4000000 in
theorem keeps_n {p p' : Option Addr} {n n' cp cp' : Nat} {play m : Int} (w : World) (g : Gd w)
    (R : ∀ w', Below w.heap.size w w' → Calls Tryz.prog 31 #[.agg (tkg p n cp p' n' cp' play)] w' (RB (.bool false) w')) :
    Calls Tryz.prog 11 #[.agg (tkg p n cp p' n' cp' play), .int .u8 m] w (RB (.bool true) w) := by
  unfold tkg at *
  obtain ⟨W, hW⟩ : ∃ W, w.alloc (.cells #[.slice p n cp, .slice p' n' cp', .int .i64 play] 25) = W := ⟨_, rfl⟩
  have q1 : W.heap[w.heap.size]? = some (.cells #[.slice p n cp, .slice p' n' cp', .int .i64 play] 25 (0, 0)) := hW ▸ heap_alloc_new w _
  have bW : Below w.heap.size w W := hW ▸ (Below.refl _ w).alloc (Nat.le_refl _) _
  have e0 : W.cell? ⟨w.heap.size, 0, none⟩ = some (.slice p n cp) := cell_of_row W _ 0 _ _ _ q1
  have e1 : W.cell? ⟨w.heap.size, 1, none⟩ = some (.slice p' n' cp') := cell_of_row W _ 1 _ _ _ q1
  have e2 : W.cell? ⟨w.heap.size, 2, none⟩ = some (.int .i64 play) := cell_of_row W _ 2 _ _ _ q1
  have RR := R W bW
  clear R
  go_enter Tryz.func11, Tryz.ntmps11
  go_wp2_with fail
  clear hW
  refine RR.mono ?_
  rintro e w1 ⟨rfl, b1⟩
  have B1 := Bl.trans bW b1
  have AA := awake_c w1 (g.below B1)
  go_wp2_with fail
  refine AA.mono ?_
  rintro e w2 ⟨rfl, b2⟩
  go_wp2_with fail
  go_ret
  exact ⟨rfl, Bl.trans B1 b2⟩

theorem nf_keeps {L : List (Tg × Ci)} (h : Pok L) : ((nf L L.length : Int) == 0) = feas (zs L 0) := by
  rw [Bool.eq_iff_iff, h.keeps, ← fails_none]
  unfold nf
  rw [List.take_length]
  simp

theorem keeps_law {ts : List Tg} {cs : List Ci} {p p' : Option Addr} {cp cp' : Nat} {play m : Int} (w : World) (g : Gd w) (hT : TL w p ts) (hC : CL w p' cs) (hm0 : 0 ≤ m) (hm1 : m ≤ 255) :
    Calls Tryz.prog 11 #[.agg (tkg p ts.length cp p' cs.length cp' play), .int .u8 m] w (RB (.bool true) w) := by
  have R := fun w' (hB : Below w.heap.size w w') => right_law (cp := cp) (cp' := cp') (play := play) w' (hT.step hB) (hC.step hB)
  cases hr : rgtb ts cs play with
  | false => rw [hr] at R; exact keeps_n w g R
  | true =>
    rw [hr] at R
    obtain ⟨h, h4, hl, p1, p2⟩ := rgt_pok hr
    obtain ⟨b, o, b', o', rfl, rfl, hm⟩ := pm_of hT hC hl h.n
    rw [hl] at R ⊢
    obtain ⟨t0, tr, rfl⟩ : ∃ t0 tr, ts = t0 :: tr := by
      cases ts with
      | nil => exact absurd rfl h.n
      | cons a r => exact ⟨a, r, rfl⟩
    obtain ⟨c0, cr, rfl⟩ : ∃ c0 cr, cs = c0 :: cr := by
      cases cs with
      | nil => simp at hl
      | cons a r => exact ⟨a, r, rfl⟩
    have hz := zip_len hl
    have hn : (((t0 :: tr).length : Nat) : Int) ≤ 1000 := by omega
    have tok : Tok t0 := h.t (t0, c0) (by simp)
    have w1 := tok.tol1
    have w2 := tok.tol2
    obtain ⟨play', hp, hpb⟩ : ∃ play' : Int, (play < 0 ∧ play' = play ∨ 0 ≤ play ∧ play' = play + m) ∧ -1 ≤ play' := by
      by_cases hp : play < 0
      · exact ⟨play, .inl ⟨hp, rfl⟩, p1⟩
      · exact ⟨play + m, .inr ⟨by omega, rfl⟩, by omega⟩
    have hp' : play < 0 ∧ play' = play ∨ 0 ≤ play ∧ IntKind.i64.wrap (play + m) = play' := by
      rcases hp with ⟨a, e⟩ | ⟨a, e⟩
      · exact .inl ⟨a, e⟩
      · exact .inr ⟨a, by rw [e]; exact IntWalk.i64_in _ (by omega)⟩
    have C2 : ∀ w', Below w.heap.size w w' → CL w' (some ⟨b', o', none⟩) (c0 :: cr) := fun w' hB => hC.step hB
    have T2 : ∀ w' gg, (∀ k t, (moreT t0 m :: tr)[k]? = some t → TA w' gg 0 k t) → TL w' (some ⟨gg, 0, none⟩) (moreT t0 m :: tr) := fun w' gg hh => ⟨fun k t e => ⟨gg, 0, rfl, hh k t e⟩⟩
    have hll : (moreT t0 m :: tr).length = (t0 :: tr).length := rfl
    refine keeps_w (t0 := t0) (tr := tr) (nl := nf ((t0 :: tr).zip (c0 :: cr)) ((t0 :: tr).zip (c0 :: cr)).length) (tol := t0.tol) (ra := feas (zs ((t0 :: tr).zip (c0 :: cr)) 0)) (rb := feas (zs ((t0 :: tr).zip (c0 :: cr)) play))
      (rw := rgtb (moreT t0 m :: tr) (c0 :: cr) play') (rc := if rgtb (moreT t0 m :: tr) (c0 :: cr) play' = true then feas (zs ((moreT t0 m :: tr).zip (c0 :: cr)) play') else true)
      w g hn (by simp) rfl hm0 hm1 (IntWalk.i64_in _ (by omega)) hp' ?_ (nf_keeps h) ?_ R ?_ ?_ ?_ ?_ ?_ ?_
    · have hk := fun hf => keeps_more h p2 hf
      cases ha : feas (zs ((t0 :: tr).zip (c0 :: cr)) 0) with
      | true => exact .inl ⟨rfl, hk ha⟩
      | false =>
        cases hb : feas (zs ((t0 :: tr).zip (c0 :: cr)) play) with
        | true => exact .inr (.inl ⟨rfl, rfl⟩)
        | false => exact .inr (.inr ⟨rfl, rfl⟩)
    · intro hf
      split
      · rename_i hrw
        obtain ⟨h', _, _, _, q2⟩ := rgt_pok hrw
        exact keeps_wide h hm0 h' p2 q2 (by omega) hf
      · rfl
    · exact fun w' hB => feas_ex (cp := cp) (cp' := cp') h hz (by omega) (by decide) (by decide) rfl w' (g.below hB) (hm.step hB)
    · intro w' hB
      have := bfail_c (cp := cp) (cp' := cp') h (by rw [hz]; omega) w' (g.below hB) (hm.step hB)
      rw [hz] at this ⊢
      exact this
    · exact fun w' hB => feas_ex (cp := cp) (cp' := cp') h hz (by omega) p1 p2 rfl w' (g.below hB) (hm.step hB)
    · intro w' hB
      refine clone_c (by simp) (by omega) w' (fun k t e => ?_)
      obtain ⟨b2, o2, e2, hta⟩ := (hT.step hB).get k t e
      cases e2; exact hta
    · intro w' gg cap hB hta
      have := right_law (cp := cap) (cp' := cp') (play := play') w' (T2 w' gg hta) (C2 w' hB)
      rw [hl] at this
      exact this
    · intro w' gg cap hB hrw hta
      obtain ⟨h', _, _, q1, q2⟩ := rgt_pok hrw
      rw [if_pos hrw]
      obtain ⟨b2, o2, b3, o3, e2, e3, hm2⟩ := pm_of (T2 w' gg hta) (C2 w' hB) hl h'.n
      cases e2; cases e3
      exact feas_ex (cp := cap) (cp' := cp') h' (zip_len hl) (by omega) q1 q2 rfl w' (g.below hB) hm2
end Go.Proofs.YtdknneofiefieaaGreatDoor
