import Derived.Deep.QuietTactic
import Derived.BigQuiet
import Derived.Test.YtdknneofiefieaaGreatDoorApa

namespace Go.Proofs.YtdknneofiefieaaGreatDoor
open Go.RowKit Go.Lib Rt Geo Sh

/-- indices as a slice -/
def IxV (w' : World) (base : Nat) (o : List Nat) (v : Value) : Prop :=
  (o = [] ∧ v = .slice none 0 0) ∨ (o ≠ [] ∧ ∃ g, v = .slice (some ⟨g, 0, none⟩) o.length o.length ∧ base ≤ g ∧ ∀ k i, o[k]? = some i → w'.cell? ⟨g, k, none⟩ = some (.int .i64 (i : Nat)))
/-- what Contradiction returns -/
def Ctrf (len : Nat) (F2 : Nat → Nat → Bool) (F3 : Nat → Nat → Nat → Bool) (o : List Nat) : Prop :=
  (o = [] ∧ (∀ i j, i < j → j < len → F2 i j = true) ∧ ∀ i j k, i < j → j < k → k < len → F3 i j k = true) ∨
  (∃ i j, i < j ∧ j < len ∧ o = [i, j] ∧ F2 i j = false) ∨
  (∃ i j k, i < j ∧ j < k ∧ k < len ∧ o = [i, j, k] ∧ F3 i j k = false)

theorem ix2 {w : World} {base i j : Nat} {t : TypeId} (h : base ≤ w.heap.size) : IxV (w.alloc (.cells #[.int .i64 (i : Nat), .int .i64 (j : Nat)] t)) base [i, j] (.slice (some ⟨w.heap.size, 0, none⟩) 2 2) := by
  refine .inr ⟨by simp, _, rfl, h, fun k x hk => ?_⟩
  have q := heap_alloc_new w (.cells #[.int .i64 (i : Nat), .int .i64 (j : Nat)] t)
  match k, hk with
  | 0, hk => cases hk; exact cell_of_row _ _ 0 _ _ _ q
  | 1, hk => cases hk; exact cell_of_row _ _ 1 _ _ _ q
theorem ix3 {w : World} {base i j l : Nat} {t : TypeId} (h : base ≤ w.heap.size) : IxV (w.alloc (.cells #[.int .i64 (i : Nat), .int .i64 (j : Nat), .int .i64 (l : Nat)] t)) base [i, j, l] (.slice (some ⟨w.heap.size, 0, none⟩) 3 3) := by
  refine .inr ⟨by simp, _, rfl, h, fun k x hk => ?_⟩
  have q := heap_alloc_new w (.cells #[.int .i64 (i : Nat), .int .i64 (j : Nat), .int .i64 (l : Nat)] t)
  match k, hk with
  | 0, hk => cases hk; exact cell_of_row _ _ 0 _ _ _ q
  | 1, hk => cases hk; exact cell_of_row _ _ 1 _ _ _ q
  | 2, hk => cases hk; exact cell_of_row _ _ 2 _ _ _ q

set_option maxRecDepth 100000 in
set_option maxHeartbeats 4000000 in
theorem contra_w {len cp b : Nat} {F2 : Nat → Nat → Bool} {F3 : Nat → Nat → Nat → Bool} (h64 : len ≤ 64) (w : World) (g : Gd w)
    (hL : Calls Tryz.prog 85 #[.slice (some ⟨b, 0, none⟩) len cp] (w.alloc (.cells #[.slice (some ⟨b, 0, none⟩) len cp] 28)) (RB (.int .i64 0) (w.alloc (.cells #[.slice (some ⟨b, 0, none⟩) len cp] 28))))
    (A2 : ∀ p lb pb i j wr, Cx wr p lb pb b len cp → Sd p wr → Below w.heap.size w wr → i < len → j < len →
      Calls Tryz.prog 88 #[.slice (some ⟨wr.heap.size, 0, none⟩) 2 2, .pointer (some ⟨lb, 0, none⟩), .pointer (some ⟨pb, 0, none⟩)] (wr.alloc (.cells #[.int .i64 (i : Nat), .int .i64 (j : Nat)] 3)) (RB (.bool (!F2 i j)) (wr.alloc (.cells #[.int .i64 (i : Nat), .int .i64 (j : Nat)] 3))))
    (A3 : ∀ p lb pb i j l wr, Cx wr p lb pb b len cp → Sd p wr → Below w.heap.size w wr → i < len → j < len → l < len →
      Calls Tryz.prog 88 #[.slice (some ⟨wr.heap.size, 0, none⟩) 3 3, .pointer (some ⟨lb, 0, none⟩), .pointer (some ⟨pb, 0, none⟩)] (wr.alloc (.cells #[.int .i64 (i : Nat), .int .i64 (j : Nat), .int .i64 (l : Nat)] 3)) (RB (.bool (!F3 i j l)) (wr.alloc (.cells #[.int .i64 (i : Nat), .int .i64 (j : Nat), .int .i64 (l : Nat)] 3)))) :
    Calls Tryz.prog 52 #[.slice (some ⟨b, 0, none⟩) len cp] w fun e w' => (∃ v o, e = .returned (.tuple #[v, .int .i64 0]) ∧ Ctrf len F2 F3 o ∧ IxV w' w.heap.size o v) ∧ Below w.heap.size w w' := by
  have h64i : (len : Int) ≤ 64 := by omega
  obtain ⟨W, hW⟩ : ∃ W, w.alloc (.cells #[.slice (some ⟨b, 0, none⟩) len cp] 28) = W := ⟨_, rfl⟩
  have q0 : W.heap[w.heap.size]? = some (.cells #[.slice (some ⟨b, 0, none⟩) len cp] 28 (0, 0)) := hW ▸ heap_alloc_new w _
  have bW : Below w.heap.size w W := hW ▸ (Below.refl _ w).alloc (Nat.le_refl _) _
  rw [hW] at hL
  have e0 : W.cell? ⟨w.heap.size, 0, none⟩ = some (.slice (some ⟨b, 0, none⟩) len cp) := cell_of_row W _ 0 _ _ _ q0
  have HA2 := Lib.hid A2
  have HA3 := Lib.hid A3
  clear A2 A3
  go_enter Tryz.func52, Tryz.ntmps52
  go_wp2_with fail
  clear hW
  refine hL.mono ?_
  rintro e w1 ⟨rfl, b1⟩
  have q1 := blk_below q0 b1
  have B1 := Bl.trans bW b1
  have S1 := Sd.new w1 (g.below B1)
  obtain ⟨X, hX⟩ : ∃ X, (w1.alloc (.cells #[.int .i64 0] 142)).alloc (.cells #[.pointer (some ⟨w1.heap.size, 0, none⟩)] 140) = X := ⟨_, rfl⟩
  have bX1 : Below (w1.alloc (.cells #[.int .i64 0] 142)).heap.size (w1.alloc (.cells #[.int .i64 0] 142)) X := hX ▸ (Below.refl _ _).alloc (Nat.le_refl _) _
  have bX : Below w1.heap.size w1 X := hX ▸ ((Below.refl _ w1).alloc (Nat.le_refl _) _).alloc (by simp) _
  have SX := S1.below bX1
  have hq : X.heap[w1.heap.size + 1]? = some (.cells #[.pointer (some ⟨w1.heap.size, 0, none⟩)] 140 (0, 0)) := by
    have := heap_alloc_new (w1.alloc (.cells #[.int .i64 0] 142)) (.cells #[.pointer (some ⟨w1.heap.size, 0, none⟩)] 140)
    rw [World.size_alloc] at this
    rw [← hX]; exact this
  have CX : Cx X w1.heap.size w.heap.size (w1.heap.size + 1) b len cp := ⟨blk_below q1 bX, hq⟩
  have BX := Bl.trans B1 bX
  have e1 : X.cell? ⟨w.heap.size, 0, none⟩ = some (.slice (some ⟨b, 0, none⟩) len cp) := cell_of_row X _ 0 _ _ _ CX.l
  clear e0 hL q0 bW
  go_wp2_with fail
  clear hX e1
  have cl : ∀ wr : World, Below X.heap.size X wr → wr.cell? ⟨w.heap.size, 0, none⟩ = some (.slice (some ⟨b, 0, none⟩) len cp) := fun wr hB => cell_of_row _ _ 0 _ _ _ (CX.step hB).l
  have cl := Lib.hid cl
  go_loopg [7, 8, 22] len (fun m _ _ s wr => ∃ i : Nat, i + m = len ∧ s = .int .i64 i ∧ Below X.heap.size X wr ∧ ∀ a c, a < c → c < len → a < i → F2 a c = true)
  case atStart => exact ⟨0, by omega, rfl, Below.refl _ _, fun a c _ _ h => by omega⟩
  case round =>
    obtain ⟨i, hm, rfl, hB, hF⟩ := hrel
    by_cases hlt : i < len
    · have hlti : (i : Int) < (len : Int) := by omega
      have hwi : IntKind.i64.wrap ((i : Int) + 1) = ((i + 1 : Nat) : Int) := by rw [IntWalk.i64_in _ (by omega)]; omega
      have hF := Lib.hid hF
      have hm := Lib.hid hm
      go_wp2_with fail
      go_loopg [8] len (fun m s wr => ∃ j : Nat, i < j ∧ j ≤ len ∧ j + m = i + 1 + len ∧ s = .int .i64 j ∧ Below X.heap.size X wr ∧ ∀ c, i < c → c < j → F2 i c = true)
      case atStart => exact ⟨i + 1, by omega, by omega, by omega, by go_num, hB, fun c h1 h2 => by omega⟩
      case round =>
        obtain ⟨j, hij, hjl, hm2, rfl, hB, hG⟩ := hrel
        have c0 := cl.out _ hB
        by_cases hltj : j < len
        · have hltji : (j : Int) < (len : Int) := by omega
          have AA := HA2.out w1.heap.size w.heap.size (w1.heap.size + 1) i j wr (CX.step hB) (SX.below hB) (Bl.trans BX hB) hlt hltj
          have bb : Below wr.heap.size wr (wr.alloc (.cells #[.int .i64 (i : Nat), .int .i64 (j : Nat)] 3)) := (Below.refl _ wr).alloc (Nat.le_refl _) _
          have hG := Lib.hid hG
          have hm2 := Lib.hid hm2
          cases hf : F2 i j with
          | false =>
            rw [hf] at AA
            go_wp2_with fail
            refine AA.mono ?_
            rintro e w3 ⟨rfl, b3⟩
            have B3 := Bl.trans (Bl.trans BX hB) (Bl.trans bb b3)
            go_wp2_with fail
            go_ret2
            exact ⟨⟨_, [i, j], rfl, .inr (.inl ⟨i, j, hij, hltj, rfl, hf⟩), ix2 B3.size⟩, B3.alloc B3.size _⟩
          | true =>
            rw [hf] at AA
            go_wp2_with fail
            refine AA.mono ?_
            rintro e w3 ⟨rfl, b3⟩
            go_wp2_with fail
            go_roundg (gk - 1)
            case measure => have := hm2.out; omega
            case rel =>
              refine ⟨j + 1, by omega, by omega, by have := hm2.out; omega, by go_num, Bl.trans hB (Bl.trans bb b3), fun c h1 h2 => ?_⟩
              by_cases h : c = j
              · rw [h]; exact hf
              · exact hG.out c h1 (by omega)
        · have hj : j = len := by omega
          have hnl : ¬ (j : Int) < (len : Int) := by omega
          have hG := Lib.hid hG
          clear hm2
          go_wp2_with fail
          go_roundg (len - (i + 1))
          case measure => have := hm.out; omega
          case rel =>
            refine ⟨i + 1, by have := hm.out; omega, by go_num, hB, fun a c h1 h2 h3 => ?_⟩
            by_cases h : a = i
            · rw [h] at h1 ⊢; exact hG.out c h1 (by omega)
            · exact hF.out a c h1 h2 (by omega)
    · have hi : len = i := by omega
      have hF2 : ∀ a c, a < c → c < len → F2 a c = true := fun a c h1 h2 => hF a c h1 h2 (by omega)
      have hF2 := Lib.hid hF2
      have c0 := cl.out _ hB
      clear hF hm hlt
      subst hi
      go_wp2_with fail
      clear c0
      go_loopg [9, 10, 11, 44] len (fun m _ _ _ s wr => ∃ i : Nat, i + m = len ∧ s = .int .i64 i ∧ Below X.heap.size X wr ∧ ∀ a c d, a < c → c < d → d < len → a < i → F3 a c d = true)
      case atStart => exact ⟨0, by omega, rfl, hB, fun a c d _ _ _ h => by omega⟩
      case round =>
        obtain ⟨i, hm, rfl, hB, hF⟩ := hrel
        by_cases hlt : i < len
        · have hlti : (i : Int) < (len : Int) := by omega
          have hwi : IntKind.i64.wrap ((i : Int) + 1) = ((i + 1 : Nat) : Int) := by rw [IntWalk.i64_in _ (by omega)]; omega
          have hF := Lib.hid hF
          have hm := Lib.hid hm
          go_wp2_with fail
          go_loopg [10, 11] len (fun m s _ wr => ∃ j : Nat, i < j ∧ j ≤ len ∧ j + m = i + 1 + len ∧ s = .int .i64 j ∧ Below X.heap.size X wr ∧ ∀ c d, i < c → c < d → d < len → c < j → F3 i c d = true)
          case atStart => exact ⟨i + 1, by omega, by omega, by omega, by go_num, hB, fun c d h1 h2 h3 h4 => by omega⟩
          case round =>
            obtain ⟨j, hij, hjl, hm2, rfl, hB, hG⟩ := hrel
            have c0 := cl.out _ hB
            have hG := Lib.hid hG
            have hm2 := Lib.hid hm2
            by_cases hltj : j < len
            · have hltji : (j : Int) < (len : Int) := by omega
              have hwj : IntKind.i64.wrap ((j : Int) + 1) = ((j + 1 : Nat) : Int) := by rw [IntWalk.i64_in _ (by omega)]; omega
              go_wp2_with fail
              clear c0
              go_loopg [11] len (fun m s wr => ∃ k : Nat, j < k ∧ k ≤ len ∧ k + m = j + 1 + len ∧ s = .int .i64 k ∧ Below X.heap.size X wr ∧ ∀ d, j < d → d < k → F3 i j d = true)
              case atStart => exact ⟨j + 1, by omega, by omega, by omega, by go_num, hB, fun c h1 h2 => by omega⟩
              case round =>
                obtain ⟨k, hjk, hkl, hm3, rfl, hB, hK⟩ := hrel
                have c0 := cl.out _ hB
                have hK := Lib.hid hK
                have hm3 := Lib.hid hm3
                by_cases hltk : k < len
                · have hltki : (k : Int) < (len : Int) := by omega
                  have AA := HA3.out w1.heap.size w.heap.size (w1.heap.size + 1) i j k wr (CX.step hB) (SX.below hB) (Bl.trans BX hB) hlt hltj hltk
                  have bb : Below wr.heap.size wr (wr.alloc (.cells #[.int .i64 (i : Nat), .int .i64 (j : Nat), .int .i64 (k : Nat)] 3)) := (Below.refl _ wr).alloc (Nat.le_refl _) _
                  cases hf : F3 i j k with
                  | false =>
                    rw [hf] at AA
                    go_wp2_with fail
                    refine AA.mono ?_
                    rintro e w3 ⟨rfl, b3⟩
                    have B3 := Bl.trans (Bl.trans BX hB) (Bl.trans bb b3)
                    go_wp2_with fail
                    go_ret2
                    exact ⟨⟨_, [i, j, k], rfl, .inr (.inr ⟨i, j, k, hij, hjk, hltk, rfl, hf⟩), ix3 B3.size⟩, B3.alloc B3.size _⟩
                  | true =>
                    rw [hf] at AA
                    go_wp2_with fail
                    refine AA.mono ?_
                    rintro e w3 ⟨rfl, b3⟩
                    go_wp2_with fail
                    go_roundg (gk - 1)
                    case measure => have := hm3.out; omega
                    case rel =>
                      refine ⟨k + 1, by omega, by omega, by have := hm3.out; omega, by go_num, Bl.trans hB (Bl.trans bb b3), fun c h1 h2 => ?_⟩
                      by_cases h : c = k
                      · rw [h]; exact hf
                      · exact hK.out c h1 (by omega)
                · have hk : k = len := by omega
                  have hnl : ¬ (k : Int) < (len : Int) := by omega
                  go_wp2_with fail
                  go_roundg (i + 1 + len - (j + 1))
                  case measure => have := hm2.out; omega
                  case rel =>
                    refine ⟨j + 1, by omega, by omega, by have := hm2.out; omega, by go_num, hB, fun c d h1 h2 h3 h4 => ?_⟩
                    by_cases h : c = j
                    · rw [h] at h2 ⊢; exact hK.out d h2 (by omega)
                    · exact hG.out c d h1 h2 h3 (by omega)
            · have hj : j = len := by omega
              have hnl : ¬ (j : Int) < (len : Int) := by omega
              go_wp2_with fail
              go_roundg (len - (i + 1))
              case measure => have := hm.out; omega
              case rel =>
                refine ⟨i + 1, by have := hm.out; omega, by go_num, hB, fun a c d h1 h2 h3 h4 => ?_⟩
                by_cases h : a = i
                · rw [h] at h1 ⊢; exact hG.out c d h1 h2 h3 (by omega)
                · exact hF.out a c d h1 h2 h3 (by omega)
        · have hi : i = len := by omega
          have hnl : ¬ (i : Int) < (len : Int) := by omega
          have hF3 : ∀ a c d, a < c → c < d → d < len → F3 a c d = true := fun a c d h1 h2 h3 => hF a c d h1 h2 h3 (by omega)
          have hF3 := Lib.hid hF3
          have SS := SX.below hB
          have c0 := SS.cell
          have c1 := cell_of_row _ _ 0 _ _ _ (CX.step hB).p
          simp only [List.getElem?_toArray] at c1
          clear hF hm
          go_wp2_with fail
          go_quiet (fail)
          go_wp2_with fail
          go_ret2
          exact ⟨⟨_, [], rfl, .inl ⟨rfl, hF2.out, hF3.out⟩, .inl ⟨rfl, rfl⟩⟩, below_drewN (Bl.trans BX hB) _⟩
end Go.Proofs.YtdknneofiefieaaGreatDoor
