/- The law ShiftKeeps of layer 45 returns true for every input and leaves its arguments as they were. Conditions: none beyond the row's own (the listed package-level variables are tied to the program's text by the card). -/
import Derived.Test.YtdknneofiefieaaGreatDoorTie
import Derived.Test.YtdknneofiefieaaGreatDoorCards
import Derived.Test.YtdknneofiefieaaGreatDoorGdL
import Derived.Test.YtdknneofiefieaaGreatDoorFRKe
import Derived.Test.YtdknneofiefieaaGreatDoorKeM

namespace Go.Proofs.YtdknneofiefieaaGreatDoor
open Go.ChangeShapes Go.WideShapes Go.ChangeAt Go.RowKit

set_option maxRecDepth 100000 in
theorem shiftKeeps_lifted (os : Os) (started : os.Started) (H : Type) (enc : TypeId × Value → H) :
    ReturnsInHanded {} Tryz.checked os 11 .any (fun w args => (Rows.shiftKeepsSpec.pre enc Tryz.prog Tryz.f11 Rows.shiftKeepsRow.domain false w args ∧ laidMetH Tryz.prog Rows.shiftKeepsRow.laid w) ∧ sizedMet enc Tryz.prog Tryz.f11 (OpenSpec.ofChange Rows.shiftKeepsSpec) false w args)
      (Rows.shiftKeepsSpec.post enc Tryz.prog Tryz.f11 false true false false) := by
  refine handed_both (C := Tryz.checked) (X := fun w _ => laidMetH Tryz.prog Rows.shiftKeepsRow.laid w) (fun _ _ _ hh h => h.of_heap hh) own_none started (by kernel_rfl) Tryz.func11
    (ChangeSpec.witness_shaped (enc := enc) (C := Tryz.checked) (os := os) (X := fun w _ => laidMetH Tryz.prog Rows.shiftKeepsRow.laid w) false (World.laidAll Tryz.prog os Rows.shiftKeepsRow.laid) #[.agg #[.slice none 0 0, .slice none 0 0, .int .i64 0], .int .u8 0] 8 (World.laidAll_os _ _ _)
      (World.shaped_of_ZipB (by kernel_rfl) (by kernel_rfl)) (by kernel_rfl) (by kernel_rfl) (by kernel_rfl)
      (by rw [MakeChecks.laidMetH_plain _ _ _ (by kernel_rfl)]; exact laidMet_laidAll _ (by kernel_rfl) (by kernel_rfl))) ?_
  intro W base args ds gs before hval0 hW hL hsh
  have hval : ∀ (j : Nat) t v, Tryz.f11.params[j]? = some t → args[j]? = some v → Value.okWide Tryz.prog W .any base t v := hval0
  have hW' := hW
  obtain ⟨p, q, hA0, hV, rfl, _, _⟩ := hW
  have hA : DataW.TrodAll enc Tryz.prog W 0 (fun _ => true) true Tryz.f11.params.toList args.toList ds p := hA0
  rw [Tryz.params11] at hA hval
  obtain ⟨v0, v1, d0, d1, p0, p1, rfl, rfl, rfl, h0, h1⟩ := trodAll_two hA
  obtain ⟨rfl, rfl⟩ := trodVars_none hV
  obtain ⟨q, q', cp, cp', ts, cs, play, rfl, hT, hC⟩ := open_task (hval 0 25 v0 rfl rfl) h0
  obtain ⟨m, rfl, rfl, rfl, wm⟩ := open_int Tryz.underlying5 (hval 1 5 v1 rfl rfl) h1
  have hmb : 0 ≤ m ∧ m ≤ 255 := by have h9 : IntKind.u8.min ≤ m ∧ m ≤ IntKind.u8.max := (by simpa [Lit.wf, IntKind.has] using wm); exact h9
  clear hA0 hval0
  simp only [List.append_nil] at hW'
  have g := gd_of hsh hL
  refine (keeps_law W g hT hC hmb.1 hmb.2).mono fun e W' ⟨he, hb⟩ => ?_
  subst he
  have hlt : ∀ x ∈ p0, x.block < W.heap.size := fun x hx => by simpa using hW'.lt x (by simpa using hx)
  have g0 := Below.trod laid_out (by kernel_rfl) (of_decide_eq_true (by kernel_rfl)) h0 hb hlt
  exact ⟨_, rfl, _, _, _, [], _, [], hW', trodAll_mk1 (shut_bool Tryz.underlying4 _), trodAll_mk2 g0 (shut_int Tryz.underlying5 wm), rfl, hb.frame _, fun h => by cases h⟩

theorem shiftKeeps_holds : Rows.ShiftKeepsSaid :=
  OpenClaim.holds_of_wide 11 Tryz.f11 rfl rfl rfl rfl rfl rfl rfl ⟨rfl, rfl, rfl, rfl, rfl⟩ rfl rfl rfl rfl rfl (by kernel_rfl) Tryz.func11 shiftKeeps_facts
    (of_decide_eq_true (by kernel_rfl)) (by unfold Func.isWrapper; rw [if_neg (of_decide_eq_false (by kernel_rfl))]; exact ⟨rfl, rfl⟩)
    (fun os started H enc _ => shiftKeeps_lifted os started H enc)

theorem shiftKeeps_card : Rows.ShiftKeepsCardSaid :=
  Claim7.holds_tied_plain_at .later [] _ true _ true
    shiftKeeps_holds (fun _ h => by cases h) (by kernel_rfl) (fun _ h => by cases h) shiftKeeps_row_tie rfl ⟨rfl, rfl⟩ (by kernel_rfl) rfl
    (fun f fn hf hfn => by
      obtain rfl : f = 11 := Option.some.inj ((show Tryz.prog.funcNamed "metrolab/metrolablaw45.ShiftKeeps" = some 11 by kernel_rfl).symm.trans hf) |>.symm
      obtain rfl : fn = Tryz.f11 := (Option.some.inj (Tryz.func11.symm.trans hfn)).symm
      exact ⟨by kernel_rfl, fun j t ht => by
        rw [Tryz.params11] at ht
        have hm : t ∈ [25, 5] := by simpa using Array.mem_of_getElem? ht
        have hall : ([25, 5].all fun u => !Tryz.prog.wantsStandIn u) = true := by kernel_rfl
        exact (show Tryz.prog.wantsStandIn t = false by simpa using List.all_eq_true.1 hall t hm)⟩)
    (by kernel_rfl)
#print axioms shiftKeeps_card
end Go.Proofs.YtdknneofiefieaaGreatDoor
