import Derived.Lib.SliceRun
import Derived.Test.YtdknneofiefieaaGreatDoorPm
import Derived.Test.YtdknneofiefieaaGreatDoorGz

namespace Go.Proofs.YtdknneofiefieaaGreatDoor
open Go.RowKit Go.Lib Rt Geo Sh

theorem tgI : (Tryz.prog.info? 85).map (fun i => (i.size, i.bytes, i.zero.map (·.cells.size))) = some (7, 56, some 7) := by kernel_rfl
theorem tgInfo : ∃ i z, Tryz.prog.info? 85 = some i ∧ i.zero = some z ∧ i.size = 7 ∧ i.bytes = 56 ∧ z.cells.size = 7 := by
  have h := tgI
  cases hi : Tryz.prog.info? 85 with
  | none => rw [hi] at h; cases h
  | some i =>
    rw [hi] at h
    simp at h
    obtain ⟨h1, h2, z, h3, h4⟩ := h
    exact ⟨i, z, rfl, h3, h1, h2, h4⟩
def tl7 (t : Tg) : List Value := [.int .i64 t.x, .int .i64 t.y, .int .i64 t.lo, .int .i64 t.hi, .int .i64 t.tol, .int .i64 t.mat, .bool t.pin]
def tcs (l : List Tg) : List Value := l.flatMap tl7
theorem tcs_len (l : List Tg) : (tcs l).length = l.length * 7 := by
  unfold tcs
  induction l with
  | nil => rfl
  | cons d t ih => rw [List.flatMap_cons, List.length_append, ih]; unfold tl7; simp; omega
theorem tcs_get (l : List Tg) : ∀ (k : Nat) (t : Tg), l[k]? = some t → ∀ j, j < 7 → (tcs l)[k * 7 + j]? = (tl7 t)[j]? := by
  induction l with
  | nil => intro k t h; simp at h
  | cons a r ih =>
    intro k t h j hj
    have e : tcs (a :: r) = tl7 a ++ tcs r := by unfold tcs; rw [List.flatMap_cons]
    have hl : (tl7 a).length = 7 := rfl
    rw [e]
    cases k with
    | zero =>
      simp at h; subst h
      rw [List.getElem?_append_left (by rw [hl]; omega)]; simp
    | succ k =>
      rw [List.getElem?_append_right (by rw [hl]; omega), hl, show (k + 1) * 7 + j - 7 = k * 7 + j by omega]
      exact ih k t (by simpa using h) j hj
theorem ta_cell {m : World} {b o k : Nat} {t : Tg} (h : TA m b o k t) {j : Nat} {u : Value} (hu : (tl7 t)[j]? = some u) : m.cell? ⟨b, o + k * 7 + j, none⟩ = some u := by
  have hj : j < 7 := (List.getElem?_eq_some_iff.1 hu).1
  match j, hj with
  | 0, _ => cases hu; exact h.c0
  | 1, _ => cases hu; exact h.c1
  | 2, _ => cases hu; exact h.c2
  | 3, _ => cases hu; exact h.c3
  | 4, _ => cases hu; exact h.c4
  | 5, _ => cases hu; exact h.c5
  | 6, _ => cases hu; exact h.c6
theorem cell_ta {m : World} {b o k : Nat} {t : Tg} (h : ∀ j u, (tl7 t)[j]? = some u → m.cell? ⟨b, o + k * 7 + j, none⟩ = some u) : TA m b o k t :=
  ⟨h 0 _ rfl, h 1 _ rfl, h 2 _ rfl, h 3 _ rfl, h 4 _ rfl, h 5 _ rfl, h 6 _ rfl⟩
theorem tcs_news {m : World} {b o : Nat} {ts : List Tg} (h : ∀ k t, ts[k]? = some t → TA m b o k t) : ∀ j u, (tcs ts)[j]? = some u → m.cell? ⟨b, o + j, none⟩ = some u := by
  intro j u hu
  have hj := (List.getElem?_eq_some_iff.1 hu).1
  rw [tcs_len] at hj
  have hk : j / 7 < ts.length := by omega
  have e := tcs_get ts (j / 7) _ (List.getElem?_eq_getElem hk) (j % 7) (by omega)
  rw [show j / 7 * 7 + j % 7 = j by omega, hu] at e
  have := ta_cell (h _ _ (List.getElem?_eq_getElem hk)) e.symm
  rwa [show o + j / 7 * 7 + j % 7 = o + j by omega] at this
/-- a slice that owns targets holds them -/
theorem owns_tl {w : World} {base g n cap : Nat} {l : List Tg} (h : w.ownsRow base 85 7 (.slice (some ⟨g, 0, none⟩) n cap) n (tcs l)) : ∀ k t, l[k]? = some t → TA w g 0 k t := by
  intro k t e
  refine cell_ta fun j u hu => ?_
  have hj : j < 7 := (List.getElem?_eq_some_iff.1 hu).1
  have hc := h.cells (g := g) rfl
  have ha : ∀ j : Nat, (⟨g, 0, none⟩ : Addr).add j = ⟨g, j, none⟩ := fun j => by unfold Addr.add; split <;> simp_all
  have := hc (k * 7 + j) u (by rw [tcs_get l k t e j hj]; exact hu)
  rw [ha] at this
  rwa [Nat.zero_add]

set_option maxRecDepth 100000 in
set_option maxHeartbeats 2000000 in
theorem clone_c {ts : List Tg} {b o cp : Nat} (h1 : 1 ≤ ts.length) (hn : ts.length ≤ 1000) (w : World) (hT : ∀ k t, ts[k]? = some t → TA w b o k t) :
    Calls Tryz.prog 38 #[.slice (some ⟨b, o, none⟩) ts.length cp] w fun e w' =>
      (∃ g cap cur, e = .returned (.slice (some ⟨g, 0, none⟩) ts.length cap) ∧ w.heap.size ≤ g ∧ w'.heap[g]? = some (.cells cur 85 (0, 0)) ∧ ∀ k t, ts[k]? = some t → TA w' g 0 k t) ∧ Below w.heap.size w w' := by
  obtain ⟨di, dz, hi0, hz0, hs0, hb0, hc0⟩ := tgInfo
  have q22 : ∀ (w : World) (a : Option Addr) (n c n' c' : Nat), (binOp .eql 22 (.slice a n c) (.slice none n' c')).run Tryz.prog w = .ok (.bool a.isNone) w := fun w a n c n' c' => Lib.run_eql_slice_nil w _ _ a n c n' c' Tryz.underlying22
  have hl := tcs_len ts
  have hN := Lib.hid (tcs_news hT)
  have hL := Lib.hid hl
  have HO := Lib.hid (fun (w' : World) (base g n cap : Nat) (h : w'.ownsRow base 85 7 (.slice (some ⟨g, 0, none⟩) n cap) n (tcs ts)) => owns_tl h)
  have h1i : ∀ u ∈ tcs ts, u.oneCell' = true := by
    intro u hu
    obtain ⟨t, _, ht⟩ := List.mem_flatMap.1 hu
    unfold tl7 at ht
    simp only [List.mem_cons, List.not_mem_nil, or_false] at ht
    rcases ht with rfl | rfl | rfl | rfl | rfl | rfl | rfl <;> rfl
  clear hT hl
  generalize tcs ts = xs at *
  go_enter Tryz.func38, Tryz.ntmps38
  go_wp2_with (at_builtin; refine wpList_append_own _ rfl _ _ 22 rfl w.heap.size 85 di dz 7 56 Tryz.underlying22 hi0 hz0 hs0 hb0 hc0 (by decide) _ 0 [] rfl (World.ownsRow_made w #[] 0 (Nat.le_refl _) (Nat.zero_le _) rfl) ⟨b, o, none⟩ ts.length cp xs rfl hL.out ?qc2 h1i ?qc4 ?qc5 ?qc6 ?_)
  case qc2 =>
    intro j u hj
    rw [Addr.add_lit]
    exact Lib.cell?_alloc_some _ (hN.out j u hj)
  case qc4 => unfold maxLen; omega
  case qc5 => omega
  case qc6 => simp
  intro v' w1 hown hgrow hnil
  obtain ⟨g, cap, rfl, hg, hcap⟩ := hown.form h1
  go_wp2_with fail
  go_ret
  have hblk : ∃ cur, w1.heap[g]? = some (.cells cur 85 (0, 0)) := by
    rcases hown.2 with ⟨h2, _⟩ | ⟨g', cap', cur, h2, _, h3, _⟩
    · cases h2
    · cases h2; exact ⟨cur, h3⟩
  obtain ⟨cur, hcur⟩ := hblk
  exact ⟨⟨g, cap, cur, rfl, hg, hcur, HO.out w1 _ g _ cap hown⟩, ((Below.refl _ w).alloc (Nat.le_refl _) _).grown hgrow (by simp) (by intro k hk; simp [Value.ownBlock] at hk; omega)⟩
end Go.Proofs.YtdknneofiefieaaGreatDoor
