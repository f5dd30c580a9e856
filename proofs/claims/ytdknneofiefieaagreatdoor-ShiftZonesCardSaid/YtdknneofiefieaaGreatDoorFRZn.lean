import Derived.Test.YtdknneofiefieaaGreatDoorRows
import Derived.JoinedOf
import Derived.KernelRfl

namespace Go.Proofs.YtdknneofiefieaaGreatDoor

set_option maxRecDepth 100000 in
set_option maxHeartbeats 20000000 in
/-- the row's closed cells are what the program forces: each by itself -/
theorem shiftZones_facts : joinedFacts Tryz.prog 3 Tryz.f3 Rows.shiftZonesSpec Rows.shiftZonesRow = true := by
  unfold joinedFacts
  repeat' with_reducible refine (Bool.and_eq_true _ _).mpr ⟨?_, ?_⟩
  all_goals (as_aux_lemma => kernel_rfl)
end Go.Proofs.YtdknneofiefieaaGreatDoor
