import Derived.Test.YtdknneofiefieaaGreatDoorGr
import Derived.Test.YtdknneofiefieaaGreatDoorGs
import Derived.Test.YtdknneofiefieaaGreatDoorGt

namespace Go.Proofs.YtdknneofiefieaaGreatDoor
open Go.RowKit Go.Lib Dec Rt Geo

theorem boolP {P : Prop} [Decidable P] {b : Bool} (h : b = true ↔ P) : b = decide P := by
  cases b <;> simp_all
theorem zsub (q : Rat) : (0 : Rat) - q = -q := by grind

theorem neg_nn (q : Rat) : decide (q < 0) = !decide (0 ≤ q) := by
  by_cases h : q < 0
  · rw [decide_eq_true h, decide_eq_false (by grind)]; rfl
  · rw [decide_eq_false h, decide_eq_true (by grind)]; rfl
theorem ddiv_c {N : Nat} {a b : Rat} (ha : Sm N a) (hb : Sm N b) (h0 : b ≠ 0) (hN : N + N < 1024) (p : Nat) (w : World) (hS : Sd p w) :
    Calls Tryz.prog 166 #[.pointer (some ⟨p, 0, none⟩), .func (.func 178) #[] #[], .string (rt a), .string (rt b)] w (RB (.string (rt (a / b))) w) :=
  ddo_Div a b (a / b) (fun w g => rDiv_c ha hb h0 hN w g) p w hS

theorem proves_same {len cp b i : Nat} {c : Nat → Dc} {side : Int} (hn : len ≤ 1000) (hi : i < len) (hds : ∀ k, k < len → Ds (c k)) (p : Nat) (w : World) (hS : Sd p w) (hD : DL w b len c) :
    Calls Tryz.prog 98 #[.pointer (some ⟨p, 0, none⟩), .slice (some ⟨b, 0, none⟩) len cp, .agg #[.int .i64 i, .int .i64 i, .int .i64 side]] w (RB (.bool (decide (Prv c len i i side))) w) := by
  have H := proves_yes (cp := cp) (c := c) (i := (i : Int)) (j := (i : Int)) (side := side) (u1 := rt (c i).x) (u2 := rt (c i).y) (u3 := ⟨#[48]⟩) (u4 := ⟨#[48]⟩) (u5 := ⟨#[48]⟩)
    (R := fun k => decide (Kp (c k) (c i).x (c i).y 0 0 0)) (ok := decide (∀ k, k < len → Kp (c k) (c i).x (c i).y 0 0 0)) (nm := (side == 0)) hn p w hS hD
    (fun w s d => named_same hi rfl p w s (d.a i hi))
    (fun _ k hk w s => by
      have := dkeeps_c (kpS0 (hds k hk) (hds i hi)) p w s
      unfold dcell pcells at this
      rw [← rt_zero'] at this
      exact this)
    (fun _ => by simp)
  have e : ((side == 0) && decide (∀ k, k < len → Kp (c k) (c i).x (c i).y 0 0 0)) = decide (Prv c len i i side) := by
    refine boolP ?_
    unfold Prv
    rw [if_pos rfl]
    simp
  rw [e] at H
  exact H

theorem proves_far0 {len cp b i j : Nat} {c : Nat → Dc} {side : Int} (hn : len ≤ 1000) (hi : i < len) (hj : j < len) (hij : i ≠ j) (hds : ∀ k, k < len → Ds (c k)) (h0 : Fr (c i) (c j) = 0) (p : Nat) (w : World) (hS : Sd p w) (hD : DL w b len c) :
    Calls Tryz.prog 98 #[.pointer (some ⟨p, 0, none⟩), .slice (some ⟨b, 0, none⟩) len cp, .agg #[.int .i64 i, .int .i64 j, .int .i64 side]] w (RB (.bool (decide (Prv c len i j side))) w) := by
  have m := nmS (hds i hi) (hds j hj)
  have H := proves_yes (cp := cp) (c := c) (i := (i : Int)) (j := (j : Int)) (side := side) (u1 := ⟨#[]⟩) (u2 := ⟨#[]⟩) (u3 := ⟨#[]⟩) (u4 := ⟨#[]⟩) (u5 := ⟨#[]⟩)
    (R := fun _ => false) (ok := false) (nm := false) hn p w hS hD
    (fun w s d => named_far0 (dx := rt (dX (c i) (c j))) (dy := rt (dY (c i) (c j))) (fr := rt (Fr (c i) (c j))) hi hj hn hij p w s (d.a i hi) (d.a j hj)
      (fun w s => dless_c m.bx m.by' m.ax m.ay (by decide) p w s) (fun w s => ddot_c m.dx m.dy m.dx m.dy m.xx m.yy (by decide) p w s)
      (by rw [rt_zero, h0]; decide))
    (fun h => by cases h) (fun h => by cases h)
  have e : (false && false) = decide (Prv c len i j side) := by
    refine boolP ?_
    unfold Prv
    rw [if_neg hij]
    simp [h0]
  rw [e] at H
  exact H

theorem proves_neg {len cp b i j : Nat} {c : Nat → Dc} {side : Int} (hn : len ≤ 1000) (hi : i < len) (hj : j < len) (hij : i ≠ j) (hds : ∀ k, k < len → Ds (c k)) (h0 : Fr (c i) (c j) ≠ 0) (hs : side < 0) (p : Nat) (w : World) (hS : Sd p w) (hD : DL w b len c) :
    Calls Tryz.prog 98 #[.pointer (some ⟨p, 0, none⟩), .slice (some ⟨b, 0, none⟩) len cp, .agg #[.int .i64 i, .int .i64 j, .int .i64 side]] w (RB (.bool (decide (Prv c len i j side))) w) := by
  have m := nmS (hds i hi) (hds j hj)
  have f := nmF (hds i hi) (hds j hj) h0
  have hpos := rt_pos (hh (c i) (c j))
  have H := proves_yes (cp := cp) (c := c) (i := (i : Int)) (j := (j : Int)) (side := side) (u1 := rt (fX (c i) (c j))) (u2 := rt (fY (c i) (c j))) (u3 := rt (dY (c i) (c j))) (u4 := rt (- dX (c i) (c j))) (u5 := rt (hh (c i) (c j)))
    (R := fun k => decide (Kp (c k) (fX (c i) (c j)) (fY (c i) (c j)) (dY (c i) (c j)) (- dX (c i) (c j)) (hh (c i) (c j))))
    (ok := decide (∀ k, k < len → Kp (c k) (fX (c i) (c j)) (fY (c i) (c j)) (dY (c i) (c j)) (- dX (c i) (c j)) (hh (c i) (c j))))
    (nm := (decide (0 ≤ hh (c i) (c j)) && (decide (hh (c i) (c j) = 0) == (side == 0)))) hn p w hS hD
    (fun w s d => named_neg (dx := rt (dX (c i) (c j))) (dy := rt (dY (c i) (c j))) (fr := rt (Fr (c i) (c j))) (fs := rt (Fr (c i) (c j) + (c i).s)) (fb := rt (Fr (c i) (c j) + (c i).s - (c j).s)) (f2 := rt (2 * Fr (c i) (c j)))
      (tt := rt (tt (c i) (c j))) (ux := rt (tt (c i) (c j) * dX (c i) (c j))) (fx := rt (fX (c i) (c j))) (uy := rt (tt (c i) (c j) * dY (c i) (c j))) (fy := rt (fY (c i) (c j))) (ny := rt (- dY (c i) (c j)))
      (sf := rt ((c i).s / Fr (c i) (c j))) (tq := rt (tt (c i) (c j) * tt (c i) (c j))) (hh := rt (hh (c i) (c j))) (nx := rt (- dX (c i) (c j)))
      hi hj hn hij p w s (d.a i hi) (d.a j hj)
      (fun w s => dless_c m.bx m.by' m.ax m.ay (by decide) p w s) (fun w s => ddot_c m.dx m.dy m.dx m.dy m.xx m.yy (by decide) p w s)
      (fun w s => dadd_c m.far m.as (by decide) p w s) (fun w s => dsub_c f.s1 m.bs (by decide) p w s)
      (fun w s => by have := dmul_c f.two m.far (by decide) p w s; rw [← rt_two] at this; exact this)
      (fun w s => ddiv_c f.s2 f.f2 f.n2 (by decide) p w s) (fun w s => dmul_c f.t m.dx (by decide) p w s) (fun w s => dadd_c m.ax f.tx (by decide) p w s)
      (fun w s => dmul_c f.t m.dy (by decide) p w s) (fun w s => dadd_c m.ay f.ty (by decide) p w s)
      (fun w s => by have := dsub_c f.zero m.dy (by decide) p w s; rw [← rt_zero', zsub] at this; exact this)
      (fun w s => ddiv_c m.as m.far h0 (by decide) p w s) (fun w s => dmul_c f.t f.t (by decide) p w s) (fun w s => dsub_c f.sF f.tq (by decide) p w s)
      (fun w s => by have := dsub_c f.zero m.dx (by decide) p w s; rw [← rt_zero', zsub] at this; exact this)
      (by rw [rt_zero, decide_eq_false h0]) hpos (by rw [rt_get0]; exact neg_nn _) (rt_zero _) rfl hs)
    (fun hnm k hk w s => by
      have hnn : 0 ≤ hh (c i) (c j) := by
        simp only [Bool.and_eq_true, decide_eq_true_eq] at hnm; exact hnm.1
      exact dkeeps_c (kpS3 (hds k hk) (hds i hi) (hds j hj) h0 hnn) p w s)
    (fun _ => by simp)
  have e : ((decide (0 ≤ hh (c i) (c j)) && (decide (hh (c i) (c j) = 0) == (side == 0))) && decide (∀ k, k < len → Kp (c k) (fX (c i) (c j)) (fY (c i) (c j)) (dY (c i) (c j)) (- dX (c i) (c j)) (hh (c i) (c j)))) = decide (Prv c len i j side) := by
    refine boolP ?_
    unfold Prv
    rw [if_neg hij]
    simp only [if_pos hs, Bool.and_eq_true, decide_eq_true_eq, beq_iff_eq, h0, not_false_eq_true, true_and, ne_eq]
    constructor
    · rintro ⟨⟨h1, h2⟩, h3⟩
      refine ⟨h1, ?_, h3⟩
      by_cases hz : hh (c i) (c j) = 0
      · rw [decide_eq_true hz] at h2
        exact ⟨fun _ => eq_of_beq h2.symm, fun _ => hz⟩
      · rw [decide_eq_false hz] at h2
        exact ⟨fun h => (hz h).elim, fun h => by rw [h] at h2; cases h2⟩
    · rintro ⟨h1, h2, h3⟩
      refine ⟨⟨h1, ?_⟩, h3⟩
      by_cases hz : hh (c i) (c j) = 0
      · rw [decide_eq_true hz, h2.1 hz]; rfl
      · rw [decide_eq_false hz]
        exact (beq_eq_false_iff_ne.2 fun h => hz (h2.2 h)).symm
  rw [e] at H
  exact H
theorem proves_pos {len cp b i j : Nat} {c : Nat → Dc} {side : Int} (hn : len ≤ 1000) (hi : i < len) (hj : j < len) (hij : i ≠ j) (hds : ∀ k, k < len → Ds (c k)) (h0 : Fr (c i) (c j) ≠ 0) (hs : ¬ side < 0) (p : Nat) (w : World) (hS : Sd p w) (hD : DL w b len c) :
    Calls Tryz.prog 98 #[.pointer (some ⟨p, 0, none⟩), .slice (some ⟨b, 0, none⟩) len cp, .agg #[.int .i64 i, .int .i64 j, .int .i64 side]] w (RB (.bool (decide (Prv c len i j side))) w) := by
  have m := nmS (hds i hi) (hds j hj)
  have f := nmF (hds i hi) (hds j hj) h0
  have hpos := rt_pos (hh (c i) (c j))
  have H := proves_yes (cp := cp) (c := c) (i := (i : Int)) (j := (j : Int)) (side := side) (u1 := rt (fX (c i) (c j))) (u2 := rt (fY (c i) (c j))) (u3 := rt (- dY (c i) (c j))) (u4 := rt (dX (c i) (c j))) (u5 := rt (hh (c i) (c j)))
    (R := fun k => decide (Kp (c k) (fX (c i) (c j)) (fY (c i) (c j)) (- dY (c i) (c j)) (dX (c i) (c j)) (hh (c i) (c j))))
    (ok := decide (∀ k, k < len → Kp (c k) (fX (c i) (c j)) (fY (c i) (c j)) (- dY (c i) (c j)) (dX (c i) (c j)) (hh (c i) (c j))))
    (nm := (decide (0 ≤ hh (c i) (c j)) && (decide (hh (c i) (c j) = 0) == (side == 0)))) hn p w hS hD
    (fun w s d => named_pos (dx := rt (dX (c i) (c j))) (dy := rt (dY (c i) (c j))) (fr := rt (Fr (c i) (c j))) (fs := rt (Fr (c i) (c j) + (c i).s)) (fb := rt (Fr (c i) (c j) + (c i).s - (c j).s)) (f2 := rt (2 * Fr (c i) (c j)))
      (tt := rt (tt (c i) (c j))) (ux := rt (tt (c i) (c j) * dX (c i) (c j))) (fx := rt (fX (c i) (c j))) (uy := rt (tt (c i) (c j) * dY (c i) (c j))) (fy := rt (fY (c i) (c j))) (ny := rt (- dY (c i) (c j)))
      (sf := rt ((c i).s / Fr (c i) (c j))) (tq := rt (tt (c i) (c j) * tt (c i) (c j))) (hh := rt (hh (c i) (c j))) (nx := rt (- dX (c i) (c j)))
      hi hj hn hij p w s (d.a i hi) (d.a j hj)
      (fun w s => dless_c m.bx m.by' m.ax m.ay (by decide) p w s) (fun w s => ddot_c m.dx m.dy m.dx m.dy m.xx m.yy (by decide) p w s)
      (fun w s => dadd_c m.far m.as (by decide) p w s) (fun w s => dsub_c f.s1 m.bs (by decide) p w s)
      (fun w s => by have := dmul_c f.two m.far (by decide) p w s; rw [← rt_two] at this; exact this)
      (fun w s => ddiv_c f.s2 f.f2 f.n2 (by decide) p w s) (fun w s => dmul_c f.t m.dx (by decide) p w s) (fun w s => dadd_c m.ax f.tx (by decide) p w s)
      (fun w s => dmul_c f.t m.dy (by decide) p w s) (fun w s => dadd_c m.ay f.ty (by decide) p w s)
      (fun w s => by have := dsub_c f.zero m.dy (by decide) p w s; rw [← rt_zero', zsub] at this; exact this)
      (fun w s => ddiv_c m.as m.far h0 (by decide) p w s) (fun w s => dmul_c f.t f.t (by decide) p w s) (fun w s => dsub_c f.sF f.tq (by decide) p w s)
      (fun w s => by have := dsub_c f.zero m.dx (by decide) p w s; rw [← rt_zero', zsub] at this; exact this)
      (by rw [rt_zero, decide_eq_false h0]) hpos (by rw [rt_get0]; exact neg_nn _) (rt_zero _) rfl hs)
    (fun hnm k hk w s => by
      have hnn : 0 ≤ hh (c i) (c j) := by
        simp only [Bool.and_eq_true, decide_eq_true_eq] at hnm; exact hnm.1
      exact dkeeps_c (kpS2 (hds k hk) (hds i hi) (hds j hj) h0 hnn) p w s)
    (fun _ => by simp)
  have e : ((decide (0 ≤ hh (c i) (c j)) && (decide (hh (c i) (c j) = 0) == (side == 0))) && decide (∀ k, k < len → Kp (c k) (fX (c i) (c j)) (fY (c i) (c j)) (- dY (c i) (c j)) (dX (c i) (c j)) (hh (c i) (c j)))) = decide (Prv c len i j side) := by
    refine boolP ?_
    unfold Prv
    rw [if_neg hij]
    simp only [if_neg hs, Bool.and_eq_true, decide_eq_true_eq, beq_iff_eq, h0, not_false_eq_true, true_and, ne_eq]
    constructor
    · rintro ⟨⟨h1, h2⟩, h3⟩
      refine ⟨h1, ?_, h3⟩
      by_cases hz : hh (c i) (c j) = 0
      · rw [decide_eq_true hz] at h2
        exact ⟨fun _ => eq_of_beq h2.symm, fun _ => hz⟩
      · rw [decide_eq_false hz] at h2
        exact ⟨fun h => (hz h).elim, fun h => by rw [h] at h2; cases h2⟩
    · rintro ⟨h1, h2, h3⟩
      refine ⟨⟨h1, ?_⟩, h3⟩
      by_cases hz : hh (c i) (c j) = 0
      · rw [decide_eq_true hz, h2.1 hz]; rfl
      · rw [decide_eq_false hz]
        exact (beq_eq_false_iff_ne.2 fun h => hz (h2.2 h)).symm
  rw [e] at H
  exact H

theorem proves_c {len cp b i j : Nat} {c : Nat → Dc} {side : Int} (hn : len ≤ 1000) (hi : i < len) (hj : j < len) (hds : ∀ k, k < len → Ds (c k)) (p : Nat) (w : World) (hS : Sd p w) (hD : DL w b len c) :
    Calls Tryz.prog 98 #[.pointer (some ⟨p, 0, none⟩), .slice (some ⟨b, 0, none⟩) len cp, .agg #[.int .i64 i, .int .i64 j, .int .i64 side]] w (RB (.bool (decide (Prv c len i j side))) w) := by
  by_cases hij : i = j
  · subst hij; exact proves_same hn hi hds p w hS hD
  · by_cases h0 : Fr (c i) (c j) = 0
    · exact proves_far0 hn hi hj hij hds h0 p w hS hD
    · by_cases hs : side < 0
      · exact proves_neg hn hi hj hij hds h0 hs p w hS hD
      · exact proves_pos hn hi hj hij hds h0 hs p w hS hD
end Go.Proofs.YtdknneofiefieaaGreatDoor
