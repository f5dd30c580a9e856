import Derived.Test.YtdknneofiefieaaGreatDoorGz
import Derived.Test.YtdknneofiefieaaGreatDoorGw

namespace Go.Proofs.YtdknneofiefieaaGreatDoor
open Go.RowKit Go.Lib Dec Rt Geo Sh

/-- the memory of the closure of Contradiction -/
structure Cx (w : World) (p lb pb b len cp : Nat) : Prop where
  l : w.heap[lb]? = some (.cells #[.slice (some ⟨b, 0, none⟩) len cp] 28 (0, 0))
  p : w.heap[pb]? = some (.cells #[.pointer (some ⟨p, 0, none⟩)] 140 (0, 0))
theorem Cx.step {x y : World} {p lb pb b len cp : Nat} (h : Cx x p lb pb b len cp) (hb : Below x.heap.size x y) : Cx y p lb pb b len cp := ⟨blk_below h.l hb, blk_below h.p hb⟩

theorem dcs_one (d : Dc) : dcs [d] = [.string (rt d.x), .string (rt d.y), .string (rt d.s)] := by unfold dcs; simp
theorem zc_getD (l : List Dc) (k : Nat) : zc l k = l.getD k default := rfl

set_option maxRecDepth 100000 in
set_option maxHeartbeats 1000000 in
theorem apart_c {cp acp lb pb ab b len : Nat} {c : Nat → Dc} {at' : List Nat} (h1 : at' ≠ []) (h3 : at'.length ≤ 3) (hin : ∀ i ∈ at', i < len) (hds : ∀ k, k < len → Ds (c k)) (p : Nat) (w : World) (hS : Sd p w) (hD : DL w b len c)
    (hC : Cx w p lb pb b len cp) (hA : ∀ k i, at'[k]? = some i → w.cell? ⟨ab, k, none⟩ = some (.int .i64 (i : Nat))) :
    Calls Tryz.prog 88 #[.slice (some ⟨ab, 0, none⟩) at'.length acp, .pointer (some ⟨lb, 0, none⟩), .pointer (some ⟨pb, 0, none⟩)] w (RB (.bool (!feas (at'.map c))) w) := by
  obtain ⟨di, dz, hi0, hz0, hs0, hb0, hc0⟩ := discInfo
  have hn3 : (at'.length : Int) ≤ 3 := by omega
  go_enter Tryz.func88, Tryz.ntmps88
  go_wp2_with fail
  go_loopg [5, 7, 12] at'.length (fun m out _ i wr => ∃ k : Nat, k + m = at'.length ∧ i = .int .i64 k ∧ Below w.heap.size w wr ∧ wr.ownsRow w.heap.size 43 3 out k (dcs ((at'.take k).map c)))
  case atStart => exact ⟨0, by omega, rfl, Below.refl _ _, World.ownsRow_nil _ _ _ _⟩
  case round =>
    obtain ⟨k, hmm, rfl, hB, hown⟩ := hrel
    by_cases hlt : k < at'.length
    · obtain ⟨i, hq⟩ : ∃ i, at'[k]? = some i := ⟨_, List.getElem?_eq_getElem hlt⟩
      have hi := hin i (List.mem_of_getElem? hq)
      have a0 := cell_bl hB (hA k i hq)
      have C1 := hC.step hB
      have e0 : wr.cell? ⟨lb, 0, none⟩ = some (.slice (some ⟨b, 0, none⟩) len cp) := cell_of_row wr _ 0 _ _ _ C1.l
      obtain ⟨d0, d1, d2⟩ := (hD.step hB).a i hi
      have hlti : (k : Int) < (at'.length : Int) := by omega
      have hii : (i : Int) < (len : Int) := by omega
      have et : dcs ((at'.take (k + 1)).map c) = dcs ((at'.take k).map c) ++ [.string (rt (c i).x), .string (rt (c i).y), .string (rt (c i).s)] := by
        rw [List.take_add_one, hq, List.map_append]
        exact dcs_snoc _ _
      have bb := (Below.refl wr.heap.size wr).alloc (Nat.le_refl _) (.cells #[.string (rt (c i).x), .string (rt (c i).y), .string (rt (c i).s)] 43)
      have own4 := owns_below hown bb
      have qn := heap_alloc_new wr (.cells #[.string (rt (c i).x), .string (rt (c i).y), .string (rt (c i).s)] 43)
      have HM := Lib.hid hmm
      have ET := Lib.hid et
      have B5 := Bl.trans hB bb
      clear hmm hq et hown hds hin hA
      go_wp2_with (at_builtin; refine wpList_append_lies _ rfl _ _ _ rfl w.heap.size 43 di dz 3 48 Tryz.underlying28 hi0 hz0 hs0 hb0 hc0 (by decide) _ k _ rfl own4 ⟨wr.heap.size, 0, none⟩ 1 1 [.string (rt (c i).x), .string (rt (c i).y), .string (rt (c i).s)] rfl rfl (World.news_of_block qn) (by simp [Value.oneCell']) (by decide) (by unfold maxLen; omega) (by omega) B5.size (wr.heap.size + 1) (by simp) ?_; intro g2 cap w5 hown5 hgrow hat hlt5)
      go_roundg (gk - 1)
      case measure => have := HM.out; omega
      case rel => exact ⟨k + 1, by have := HM.out; omega, by go_num, B5.grown hgrow B5.size (fun j e => (own4.lt j e).1), by rw [ET.out]; exact hown5⟩
    · have hk : k = at'.length := by omega
      clear hlt hmm
      subst hk
      rw [List.take_length] at hown
      have hlen1 : 1 ≤ at'.length := List.length_pos_iff.2 h1
      obtain ⟨gg, cap, rfl, _, _⟩ := hown.form hlen1
      have hml : at'.length = (at'.map c).length := by simp
      have F := first_c (cp := cap) (c := zc (at'.map c)) (b := gg) (len := at'.length) (by omega) (fun k hk => by
        rw [zc_get (by rw [← hml]; exact hk)]
        rw [List.getElem_map]
        exact hds _ (hin _ (List.getElem_mem hk))) p wr (hS.below hB) (owns_dl hown hml)
      have C1 := hC.step hB
      have e0 : wr.cell? ⟨pb, 0, none⟩ = some (.pointer (some ⟨p, 0, none⟩)) := cell_of_row wr _ 0 _ _ _ C1.p
      have hf : feas (at'.map c) = (fw (zc (at'.map c)) at'.length).isSome := by unfold feas; rw [← hml]
      have S1 := hS.below hB
      clear hds hin hA hC hown hml hD hS
      cases ho : fw (zc (at'.map c)) at'.length with
      | none =>
        rw [ho] at F hf
        dsimp only [fwv] at F
        have HF := Lib.hid hf
        clear ho hf
        go_wp2_with fail
        refine F.mono ?_
        rintro e w2 ⟨rfl, b2⟩
        have bX : Below w2.heap.size w2 (w2.alloc (.cells #[.int .i64 0, .int .i64 0, .int .i64 0] 53)) := (Below.refl _ _).alloc (Nat.le_refl _) _
        have e0 : (w2.alloc (.cells #[.int .i64 0, .int .i64 0, .int .i64 0] 53)).cell? ⟨pb, 0, none⟩ = some (.pointer (some ⟨p, 0, none⟩)) := cell_of_row _ _ 0 _ _ _ ((C1.step b2).step bX).p
        have e1 := ((S1.below b2).below bX).cell
        go_wp2_with fail
        go_ret
        exact ⟨by rw [HF.out]; rfl, Bl.trans hB (Bl.trans b2 ((Below.refl _ _).alloc (Nat.le_refl _) _))⟩
      | some x =>
        rw [ho] at F hf
        dsimp only [fwv, wv] at F
        have HF := Lib.hid hf
        clear ho hf
        go_wp2_with fail
        refine F.mono ?_
        rintro e w2 ⟨rfl, b2⟩
        go_wp2_with fail
        go_ret
        exact ⟨by rw [HF.out]; rfl, Bl.trans hB (Bl.trans b2 ((Below.refl _ _).alloc (Nat.le_refl _) _))⟩
end Go.Proofs.YtdknneofiefieaaGreatDoor
