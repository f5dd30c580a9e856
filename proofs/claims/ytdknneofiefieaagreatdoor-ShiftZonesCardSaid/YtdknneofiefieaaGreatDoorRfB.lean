import Derived.Test.YtdknneofiefieaaGreatDoorRfT
import Derived.Test.YtdknneofiefieaaGreatDoorPm

namespace Go.Proofs.YtdknneofiefieaaGreatDoor
open Go.RowKit Go.Lib Rt Geo Sh

set_option maxRecDepth 100000 in
set_option maxHeartbeats 1000000 in
theorem rplate_c {ts : List Tg} {cs : List Ci} {p p' : Option Addr} {cp cp' : Nat} (w : World) (hT : TL w p ts) (hC : CL w p' cs) :
    Calls Tryz.prog 44 #[.slice p ts.length cp, .slice p' cs.length cp'] w (RB (.int .i64 (pchk ts cs)) w) := by
  by_cases h16 : 16 < ts.length
  · have E : pchk ts cs = 5 := by unfold pchk; rw [if_pos h16]
    rw [E]
    have h16i : (16 : Int) < (ts.length : Int) := by omega
    clear hT hC
    go_enter Tryz.func44, Tryz.ntmps44
    go_wp2_with fail
    go_ret
    exact ⟨rfl, Below.refl _ _⟩
  · have h16i : (ts.length : Int) ≤ 16 := by omega
    have HE : fst0 tchk ts ≠ 0 → pchk ts cs = fst0 tchk ts := by intro h; unfold pchk; rw [if_neg h16, if_pos h]
    have HF : fst0 tchk ts = 0 → cs.length ≠ ts.length → pchk ts cs = 8 := by intro h h'; unfold pchk; rw [if_neg h16, if_neg (fun k => k h), if_pos h']
    have HG : fst0 tchk ts = 0 → cs.length = ts.length → pchk ts cs = fst0 rchk cs := by intro h h'; unfold pchk; rw [if_neg h16, if_neg (fun k => k h), if_neg (fun k => k h')]
    generalize pchk ts cs = r at *
    have HE := Lib.hid HE
    have HF := Lib.hid HF
    have HG := Lib.hid HG
    have hT := Lib.hid hT
    have hC := Lib.hid hC
    go_enter Tryz.func44, Tryz.ntmps44
    go_wp2_with fail
    go_loopg [5, 6] ts.length (fun m i _ wr => ∃ k : Nat, k + m = ts.length ∧ i = .int .i64 k ∧ Below w.heap.size w wr ∧ fst0 tchk ts = fst0 tchk (ts.drop k))
    case atStart => exact ⟨0, by omega, rfl, Below.refl _ _, rfl⟩
    case round =>
      obtain ⟨k, hmm, rfl, hB, hf⟩ := hrel
      by_cases hlt : k < ts.length
      · obtain ⟨q, hq⟩ : ∃ q, ts[k]? = some q := ⟨_, List.getElem?_eq_getElem hlt⟩
        have hlti : (k : Int) < (ts.length : Int) := by omega
        obtain ⟨b, o, hp, hA⟩ := hT.out.get k q hq
        obtain ⟨a0, a1, a2, a3, a4, a5, a6⟩ := hA.step hB
        have KK := rtchk_c q wr
        rw [fst0_drop tchk hq] at hf
        unfold tcells at KK
        by_cases hz : tchk q = 0
        · rw [if_pos hz] at hf
          rw [hz] at KK
          have HM := Lib.hid hmm
          have HH := Lib.hid hf
          clear hmm hf hz hA hq
          subst hp
          go_wp2_with fail
          refine KK.mono ?_
          rintro e w1 ⟨rfl, b1⟩
          go_wp2_with fail
          go_roundg (gk - 1)
          case measure => have := HM.out; omega
          case rel => exact ⟨k + 1, by have := HM.out; omega, by go_num, Bl.trans hB b1, HH.out⟩
        · rw [if_neg hz] at hf
          generalize tchk q = z at *
          have hr : r = z := by rw [HE.out (by rw [hf]; exact hz), hf]
          clear hmm hf hA hq
          subst hp
          subst hr
          go_wp2_with fail
          refine KK.mono ?_
          rintro e w1 ⟨rfl, b1⟩
          go_wp2_with fail
          go_ret
          exact ⟨rfl, Bl.trans hB b1⟩
      · have hk : k = ts.length := by omega
        have hf0 : fst0 tchk ts = 0 := by rw [hf, hk, List.drop_length]; rfl
        have HE' := Lib.hid hf0
        clear hlt hmm hf hf0
        subst hk
        by_cases hl : cs.length = ts.length
        · have hli : (cs.length : Int) = (ts.length : Int) := by omega
          have hr := HG.out HE'.out hl
          have HR := Lib.hid hr
          have HL := Lib.hid hl
          clear hr hl
          go_wp2_with fail
          go_loopg [7, 8] cs.length (fun m i _ wx => ∃ k : Nat, k + m = cs.length ∧ i = .int .i64 k ∧ Below w.heap.size w wx ∧ fst0 rchk cs = fst0 rchk (cs.drop k))
          case atStart => exact ⟨0, by omega, rfl, hB, rfl⟩
          case round =>
            obtain ⟨k, hmm, rfl, hB, hf⟩ := hrel
            by_cases hlt : k < cs.length
            · obtain ⟨q, hq⟩ : ∃ q, cs[k]? = some q := ⟨_, List.getElem?_eq_getElem hlt⟩
              have hlti : (k : Int) < (cs.length : Int) := by omega
              obtain ⟨b, o, hp, hA⟩ := hC.out.get k q hq
              obtain ⟨a0, a1, a2⟩ := hA.step hB
              have KK := fun w => rring_c q w
              rw [fst0_drop rchk hq] at hf
              unfold ccells at KK
              by_cases hz : rchk q = 0
              · rw [if_pos hz] at hf
                rw [hz] at KK
                have HM := Lib.hid hmm
                have HH := Lib.hid hf
                clear hmm hf hz hA hq
                subst hp
                go_wp2_with fail
                refine (KK _).mono ?_
                rintro e w1 ⟨rfl, b1⟩
                go_wp2_with fail
                go_roundg (gk - 1)
                case measure => have := HM.out; omega
                case rel => exact ⟨k + 1, by have := HM.out; omega, by go_num, Bl.trans hB b1, HH.out⟩
              · rw [if_neg hz] at hf
                have hr : r = rchk q := by rw [HR.out, hf]
                generalize rchk q = z at *
                clear hmm hf hA hq
                subst hp
                subst hr
                go_wp2_with fail
                refine (KK _).mono ?_
                rintro e w1 ⟨rfl, b1⟩
                go_wp2_with fail
                go_ret
                exact ⟨rfl, Bl.trans hB b1⟩
            · have hk : k = cs.length := by omega
              have hr : r = 0 := by rw [HR.out, hf, hk, List.drop_length]; rfl
              clear hlt hmm hf
              subst hk
              subst hr
              go_wp2_with fail
              go_ret
              exact ⟨rfl, hB⟩
        · have hli : ¬ (cs.length : Int) = (ts.length : Int) := by omega
          have hr := HF.out HE'.out hl
          subst hr
          go_wp2_with fail
          go_ret
          exact ⟨rfl, hB⟩
end Go.Proofs.YtdknneofiefieaaGreatDoor
