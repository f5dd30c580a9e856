import Derived.Test.YtdknneofiefieaaGreatDoorAwk
import Derived.Test.YtdknneofiefieaaGreatDoorRig

namespace Go.Proofs.YtdknneofiefieaaGreatDoor
open Go.RowKit Go.Lib Rt Geo Sh

theorem heap_set3 {X : World} {f : Nat} {a b c v : Value} {t : TypeId} (h : X.heap[f]? = some (.cells #[a, b, c] t (0, 0))) : (X.setCell ⟨f, 2, none⟩ v).heap[f]? = some (.cells #[a, b, v] t (0, 0)) := by
  simp only [World.setCell, Array.getElem?_modify, h]
  simp
theorem frozen3 {X : World} {f : Nat} {a b c : Value} {t : TypeId} (h : X.heap[f]? = some (.cells #[a, b, c] t (0, 0))) (o : Nat) : X.frozen? ⟨f, o, none⟩ = false := by
  unfold World.frozen?; simp [h]
/-- a right task's plate in memory -/
theorem pm_of {w : World} {p p' : Option Addr} {ts : List Tg} {cs : List Ci} (hT : TL w p ts) (hC : CL w p' cs) (hl : cs.length = ts.length) (h0 : ts.zip cs ≠ []) :
    ∃ b o b' o', p = some ⟨b, o, none⟩ ∧ p' = some ⟨b', o', none⟩ ∧ PM w b o b' o' (ts.zip cs) := by
  have hz : (ts.zip cs).length = ts.length := by rw [List.length_zip, hl]; omega
  have hpos : 0 < ts.length := by
    rw [← hz]; exact List.length_pos_iff.2 h0
  obtain ⟨b, o, rfl, _⟩ := hT.get 0 _ (List.getElem?_eq_getElem hpos)
  obtain ⟨b', o', rfl, _⟩ := hC.get 0 _ (List.getElem?_eq_getElem (by omega))
  refine ⟨b, o, b', o', rfl, rfl, ⟨fun k q hq => ?_, fun k q hq => ?_⟩⟩
  · obtain ⟨h1, _⟩ := List.getElem?_zip_eq_some.1 hq
    obtain ⟨b2, o2, e, h⟩ := hT.get k _ h1
    cases e; exact h
  · obtain ⟨_, h1⟩ := List.getElem?_zip_eq_some.1 hq
    obtain ⟨b2, o2, e, h⟩ := hC.get k _ h1
    cases e; exact h
theorem zip_len {ts : List Tg} {cs : List Ci} (hl : cs.length = ts.length) : (ts.zip cs).length = ts.length := by rw [List.length_zip, hl]; omega

/-- Needed of a task whose length is named -/
theorem need_ex {ts : List (Tg × Ci)} {b o b' o' cp cp' n : Nat} {play : Int} (h : Pok ts) (hl : ts.length = n) (hn : n ≤ 16) (p1 : -1 ≤ play) (p2 : play ≤ 100000) (w : World) (g : Gd w) (hm : PM w b o b' o' ts) :
    Calls Tryz.prog 29 #[.agg (tkv b o n cp b' o' cp' play)] w fun e w' => NeR ts e ∧ Below w.heap.size w w' := by
  subst hl
  exact needed_c h hn p1 p2 w g hm
end Go.Proofs.YtdknneofiefieaaGreatDoor
