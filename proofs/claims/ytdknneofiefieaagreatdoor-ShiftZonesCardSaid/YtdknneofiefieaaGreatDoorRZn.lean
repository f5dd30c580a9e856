/- The law ShiftZones of layer 45 returns true for every input and leaves its arguments as they were. Conditions: none beyond the row's own (the listed package-level variables are tied to the program's text by the card). -/
import Derived.Test.YtdknneofiefieaaGreatDoorTie
import Derived.Test.YtdknneofiefieaaGreatDoorCards
import Derived.Test.YtdknneofiefieaaGreatDoorGdL
import Derived.Test.YtdknneofiefieaaGreatDoorFRZn
import Derived.Test.YtdknneofiefieaaGreatDoorHe

namespace Go.Proofs.YtdknneofiefieaaGreatDoor
open Go.ChangeShapes Go.WideShapes Go.ChangeAt Go.RowKit

set_option maxRecDepth 100000 in
theorem shiftZones_lifted (os : Os) (started : os.Started) (H : Type) (enc : TypeId × Value → H) :
    ReturnsInHanded {} Tryz.checked os 3 .any (fun w args => (Rows.shiftZonesSpec.pre enc Tryz.prog Tryz.f3 Rows.shiftZonesRow.domain false w args ∧ laidMetH Tryz.prog Rows.shiftZonesRow.laid w) ∧ sizedMet enc Tryz.prog Tryz.f3 (OpenSpec.ofChange Rows.shiftZonesSpec) false w args)
      (Rows.shiftZonesSpec.post enc Tryz.prog Tryz.f3 false true false false) := by
  refine handed_both (C := Tryz.checked) (X := fun w _ => laidMetH Tryz.prog Rows.shiftZonesRow.laid w) (fun _ _ _ hh h => h.of_heap hh) own_none started (by kernel_rfl) Tryz.func3
    (ChangeSpec.witness_shaped (enc := enc) (C := Tryz.checked) (os := os) (X := fun w _ => laidMetH Tryz.prog Rows.shiftZonesRow.laid w) false (World.laidAll Tryz.prog os Rows.shiftZonesRow.laid) #[.agg #[.slice none 0 0, .slice none 0 0, .int .i64 0]] 8 (World.laidAll_os _ _ _)
      (World.shaped_of_ZipB (by kernel_rfl) (by kernel_rfl)) (by kernel_rfl) (by kernel_rfl) (by kernel_rfl)
      (by rw [MakeChecks.laidMetH_plain _ _ _ (by kernel_rfl)]; exact laidMet_laidAll _ (by kernel_rfl) (by kernel_rfl))) ?_
  intro W base args ds gs before hval0 hW hL hsh
  have hval : ∀ (j : Nat) t v, Tryz.f3.params[j]? = some t → args[j]? = some v → Value.okWide Tryz.prog W .any base t v := hval0
  have hW' := hW
  obtain ⟨p, q, hA0, hV, rfl, _, _⟩ := hW
  have hA : DataW.TrodAll enc Tryz.prog W 0 (fun _ => true) true Tryz.f3.params.toList args.toList ds p := hA0
  rw [Tryz.params3] at hA hval
  obtain ⟨v0, d0, rfl, rfl, h0⟩ := trodAll_one hA
  obtain ⟨rfl, rfl⟩ := trodVars_none hV
  obtain ⟨q, q', cp, cp', ts, cs, play, rfl, hT, hC⟩ := open_task (hval 0 25 v0 rfl rfl) h0
  clear hA0 hval0
  simp only [List.append_nil] at hW'
  have g := gd_of hsh hL
  refine (zones_law W g hT hC).mono fun e W' ⟨he, hb⟩ => ?_
  subst he
  have hlt : ∀ x ∈ p, x.block < W.heap.size := fun x hx => by simpa using hW'.lt x (by simpa using hx)
  have g0 := Below.trod laid_out (by kernel_rfl) (of_decide_eq_true (by kernel_rfl)) h0 hb hlt
  exact ⟨_, rfl, _, _, _, [], _, [], hW', trodAll_mk1 (shut_bool Tryz.underlying4 _), trodAll_mk1 g0, rfl, hb.frame _, fun h => by cases h⟩

theorem shiftZones_holds : Rows.ShiftZonesSaid :=
  OpenClaim.holds_of_wide 3 Tryz.f3 rfl rfl rfl rfl rfl rfl rfl ⟨rfl, rfl, rfl, rfl, rfl⟩ rfl rfl rfl rfl rfl (by kernel_rfl) Tryz.func3 shiftZones_facts
    (of_decide_eq_true (by kernel_rfl)) (by unfold Func.isWrapper; rw [if_neg (of_decide_eq_false (by kernel_rfl))]; exact ⟨rfl, rfl⟩)
    (fun os started H enc _ => shiftZones_lifted os started H enc)

theorem shiftZones_card : Rows.ShiftZonesCardSaid :=
  Claim7.holds_tied_plain_at .later [] _ true _ true
    shiftZones_holds (fun _ h => by cases h) (by kernel_rfl) (fun _ h => by cases h) shiftZones_row_tie rfl ⟨rfl, rfl⟩ (by kernel_rfl) rfl
    (fun f fn hf hfn => by
      obtain rfl : f = 3 := Option.some.inj ((show Tryz.prog.funcNamed "metrolab/metrolablaw45.ShiftZones" = some 3 by kernel_rfl).symm.trans hf) |>.symm
      obtain rfl : fn = Tryz.f3 := (Option.some.inj (Tryz.func3.symm.trans hfn)).symm
      exact ⟨by kernel_rfl, fun j t ht => by
        rw [Tryz.params3] at ht
        have hm : t ∈ [25] := by simpa using Array.mem_of_getElem? ht
        have hall : ([25].all fun u => !Tryz.prog.wantsStandIn u) = true := by kernel_rfl
        exact (show Tryz.prog.wantsStandIn t = false by simpa using List.all_eq_true.1 hall t hm)⟩)
    (by kernel_rfl)
#print axioms shiftZones_card
end Go.Proofs.YtdknneofiefieaaGreatDoor
