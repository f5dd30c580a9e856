import Derived.Test.YtdknneofiefieaaGreatDoorCon
import Derived.Test.YtdknneofiefieaaGreatDoorGz

namespace Go.Proofs.YtdknneofiefieaaGreatDoor
open Go.RowKit Go.Lib Rt Geo Sh

theorem IxV.mono {w : World} {b b' : Nat} {o : List Nat} {v : Value} (h : IxV w b o v) (hb : b' ≤ b) : IxV w b' o v := by
  rcases h with h | ⟨h0, g, h1, h2, h3⟩
  · exact .inl h
  · exact .inr ⟨h0, g, h1, Nat.le_trans hb h2, h3⟩
theorem IxV.step {x y : World} {b : Nat} {o : List Nat} {v : Value} (h : IxV x b o v) (hb : Below x.heap.size x y) : IxV y b o v := by
  rcases h with h | ⟨h0, g, h1, h2, h3⟩
  · exact .inl h
  · exact .inr ⟨h0, g, h1, h2, fun k i e => cell_bl hb (h3 k i e)⟩

theorem dcontra_c {l : List Dc} {cp b : Nat} (h1 : 1 ≤ l.length) (h64 : l.length ≤ 64) (hds : ∀ d ∈ l, Ds d) (w : World) (g : Gd w) (hD : DL w b l.length (zc l)) :
    Calls Tryz.prog 52 #[.slice (some ⟨b, 0, none⟩) l.length cp] w fun e w' => (∃ v o, e = .returned (.tuple #[v, .int .i64 0]) ∧ Ctr l o ∧ IxV w' w.heap.size o v) ∧ Below w.heap.size w w' := by
  have hds' : ∀ k, k < l.length → Ds (zc l k) := fun k hk => hds _ (zc_mem hk)
  have bL : Below w.heap.size w (w.alloc (.cells #[.slice (some ⟨b, 0, none⟩) l.length cp] 28)) := (Below.refl _ w).alloc (Nat.le_refl _) _
  refine contra_w (F2 := fun i j => feas [zc l i, zc l j]) (F3 := fun i j k => feas [zc l i, zc l j, zc l k]) h64 w g (list_c h1 h64 hds' _ (g.below bL) (hD.step bL)) ?_ ?_
  · intro p lb pb i j wr hC hS hB hi hj
    have bb : Below wr.heap.size wr (wr.alloc (.cells #[.int .i64 (i : Nat), .int .i64 (j : Nat)] 3)) := (Below.refl _ wr).alloc (Nat.le_refl _) _
    have q := heap_alloc_new wr (.cells #[.int .i64 (i : Nat), .int .i64 (j : Nat)] 3)
    refine apart_c (acp := 2) (at' := [i, j]) (c := zc l) (by simp) (by simp) (by intro x hx; simp at hx; omega) hds' p _ (hS.below bb) (hD.step (Bl.trans hB bb)) (hC.step bb) (fun k x hx => ?_)
    match k, hx with
    | 0, hx => cases hx; exact cell_of_row _ _ 0 _ _ _ q
    | 1, hx => cases hx; exact cell_of_row _ _ 1 _ _ _ q
  · intro p lb pb i j m wr hC hS hB hi hj hm
    have bb : Below wr.heap.size wr (wr.alloc (.cells #[.int .i64 (i : Nat), .int .i64 (j : Nat), .int .i64 (m : Nat)] 3)) := (Below.refl _ wr).alloc (Nat.le_refl _) _
    have q := heap_alloc_new wr (.cells #[.int .i64 (i : Nat), .int .i64 (j : Nat), .int .i64 (m : Nat)] 3)
    refine apart_c (acp := 3) (at' := [i, j, m]) (c := zc l) (by simp) (by simp) (by intro x hx; simp at hx; omega) hds' p _ (hS.below bb) (hD.step (Bl.trans hB bb)) (hC.step bb) (fun k x hx => ?_)
    match k, hx with
    | 0, hx => cases hx; exact cell_of_row _ _ 0 _ _ _ q
    | 1, hx => cases hx; exact cell_of_row _ _ 1 _ _ _ q
    | 2, hx => cases hx; exact cell_of_row _ _ 2 _ _ _ q

set_option maxRecDepth 100000 in
set_option maxHeartbeats 1000000 in
theorem scontra_w {b o b' o' n cp cp' : Nat} {play : Int} (w : World) (g : Gd w) {R : Value → World → Prop} {Q : List Nat → Prop}
    (Z : ∀ w', Below w.heap.size w w' → Gd w' → Calls Tryz.prog 14 #[.agg (tkv b o n cp b' o' cp' play)] w' fun e w'' => (∃ v, e = .returned (.tuple #[v, .int .i64 0]) ∧ R v w'') ∧ Below w'.heap.size w' w'')
    (C : ∀ v w', R v w' → Gd w' → Calls Tryz.prog 52 #[v] w' fun e w'' => (∃ v' o, e = .returned (.tuple #[v', .int .i64 0]) ∧ Q o ∧ IxV w'' w'.heap.size o v') ∧ Below w'.heap.size w' w'') :
    Calls Tryz.prog 26 #[.agg (tkv b o n cp b' o' cp' play)] w fun e w' => (∃ v o, e = .returned (.tuple #[v, .int .i64 0]) ∧ Q o ∧ IxV w' w.heap.size o v) ∧ Below w.heap.size w w' := by
  unfold tkv at *
  obtain ⟨W, hW⟩ : ∃ W, w.alloc (.cells #[.slice (some ⟨b, o, none⟩) n cp, .slice (some ⟨b', o', none⟩) n cp', .int .i64 play] 25) = W := ⟨_, rfl⟩
  have q1 : W.heap[w.heap.size]? = some (.cells #[.slice (some ⟨b, o, none⟩) n cp, .slice (some ⟨b', o', none⟩) n cp', .int .i64 play] 25 (0, 0)) := hW ▸ heap_alloc_new w _
  have bW : Below w.heap.size w W := hW ▸ (Below.refl _ w).alloc (Nat.le_refl _) _
  have ZZ := Z W bW (g.below bW)
  have e0 : W.cell? ⟨w.heap.size, 0, none⟩ = some (.slice (some ⟨b, o, none⟩) n cp) := cell_of_row W _ 0 _ _ _ q1
  have e1 : W.cell? ⟨w.heap.size, 1, none⟩ = some (.slice (some ⟨b', o', none⟩) n cp') := cell_of_row W _ 1 _ _ _ q1
  have e2 : W.cell? ⟨w.heap.size, 2, none⟩ = some (.int .i64 play) := cell_of_row W _ 2 _ _ _ q1
  clear Z q1
  go_enter Tryz.func26, Tryz.ntmps26
  go_wp2_with fail
  clear hW
  refine ZZ.mono ?_
  rintro e w1 ⟨⟨v, rfl, hR⟩, b1⟩
  have B1 := Bl.trans bW b1
  have CC := C v w1 hR (g.below B1)
  clear e0 e1 e2 C
  go_wp2_with fail
  refine CC.mono ?_
  rintro e w2 ⟨⟨v', o2, rfl, hQ, hI⟩, b2⟩
  go_wp2_with fail
  go_ret2
  exact ⟨⟨_, o2, rfl, hQ, hI.mono B1.size⟩, Bl.trans B1 b2⟩

theorem scontra_c {ts : List (Tg × Ci)} {b o b' o' cp cp' : Nat} {play : Int} (h : Pok ts) (hn : ts.length ≤ 16) (p1 : -1 ≤ play) (p2 : play ≤ 100000) (w : World) (g : Gd w) (hm : PM w b o b' o' ts) :
    Calls Tryz.prog 26 #[.agg (tkv b o ts.length cp b' o' cp' play)] w fun e w' => (∃ v o, e = .returned (.tuple #[v, .int .i64 0]) ∧ Ctr (zs ts play) o ∧ IxV w' w.heap.size o v) ∧ Below w.heap.size w w' := by
  have hds := h.ds p2
  have hlen : 1 ≤ (zs ts play).length := List.length_pos_iff.2 (zs_ne h.n play)
  have h64 : (zs ts play).length ≤ 64 := by
    unfold zs; rw [List.length_append, List.length_map]; split <;> simp <;> omega
  refine scontra_w (R := fun v w'' => ∃ base, w''.ownsRow base 43 3 v (zs ts play).length (dcs (zs ts play))) w g (fun w' hB g' => ?_) (fun v w' hR g' => ?_)
  · refine (zones_c (cp := cp) (cp' := cp') h hn p1 p2 w' g' (hm.step hB)).mono fun e w'' => ?_
    rintro ⟨⟨v, n, rfl, rfl, ho⟩, hb⟩
    exact ⟨⟨v, rfl, _, ho⟩, hb⟩
  · obtain ⟨base, ho⟩ := hR
    obtain ⟨gg, cap, rfl, _, _⟩ := ho.form hlen
    exact dcontra_c hlen h64 hds w' g' (owns_dl ho rfl)
end Go.Proofs.YtdknneofiefieaaGreatDoor
