/-
  DERIVED. GIVEN WITH THE SEED: THE CARDS: each row of YtdknneofiefieaaGreatDoorRows.lean that lists a variable, with what it lists TIED to the program's text (the seventh form; the later family's looks); each row that meets fmt, with fmt's text TOLD by the authors' own Lean function (tested against real Go, not proved from fmt's source: count such statements apart). THE CARD IS WHAT COUNTS. Prove the row's statement (the work); the ties are given (YtdknneofiefieaaGreatDoorTie.lean); close each card by the builder's one call (the guide's Derived/Test/ToyasCard.lean, 'card_holds'). Laid BY PROGRAM, IN A SANDBOX (cutbox-door.mjs). By AI agents, Wed Nov 11 2026. No macro, syntax, notation, axiom, sorry.
-/
import Derived.Test.YtdknneofiefieaaGreatDoorRows
import GoSem.ClaimSeven
namespace Go.Proofs.YtdknneofiefieaaGreatDoor
namespace Rows

/-- THE TIED CARD OF 'metrolablaw45.ShiftZones'. -/
def shiftZonesCard : Claim7 := { stood := { row := shiftZonesRow, standIns := [], harness := (true, "f18153857b4b6f31f394d2f58f264315caa6e04f9ea66e9a324531f6a1a8e416"), looks := true }, kinds := [], alts := [], laidByText := true, laidKinds := [.data, .data, .data, .data, .data, .sentinel, .sentinel, .pinned], laidTests := true, laidLooks := .later }
def ShiftZonesCardSaid : Prop := Claim7.holds Tryz.pinned (.plain (OpenSpec.ofChange shiftZonesSpec)) shiftZonesCard

/-- THE TIED CARD OF 'metrolablaw45.ShiftDoes'. -/
def shiftDoesCard : Claim7 := { stood := { row := shiftDoesRow, standIns := [], harness := (true, "f18153857b4b6f31f394d2f58f264315caa6e04f9ea66e9a324531f6a1a8e416"), looks := true }, kinds := [], alts := [], laidByText := true, laidKinds := [.data, .data, .data, .data, .data, .sentinel, .sentinel, .pinned], laidTests := true, laidLooks := .later }
def ShiftDoesCardSaid : Prop := Claim7.holds Tryz.pinned (.plain (OpenSpec.ofChange shiftDoesSpec)) shiftDoesCard

/-- THE TIED CARD OF 'metrolablaw45.ShiftFinds'. -/
def shiftFindsCard : Claim7 := { stood := { row := shiftFindsRow, standIns := [], harness := (true, "f18153857b4b6f31f394d2f58f264315caa6e04f9ea66e9a324531f6a1a8e416"), looks := true }, kinds := [], alts := [], laidByText := true, laidKinds := [.data, .data, .data, .data, .data, .sentinel, .sentinel, .pinned], laidTests := true, laidLooks := .later }
def ShiftFindsCardSaid : Prop := Claim7.holds Tryz.pinned (.plain (OpenSpec.ofChange shiftFindsSpec)) shiftFindsCard

/-- THE TIED CARD OF 'metrolablaw45.ShiftNeeds'. -/
def shiftNeedsCard : Claim7 := { stood := { row := shiftNeedsRow, standIns := [], harness := (true, "f18153857b4b6f31f394d2f58f264315caa6e04f9ea66e9a324531f6a1a8e416"), looks := true }, kinds := [], alts := [], laidByText := true, laidKinds := [.data, .data, .data, .data, .data, .sentinel, .sentinel, .pinned], laidTests := true, laidLooks := .later }
def ShiftNeedsCardSaid : Prop := Claim7.holds Tryz.pinned (.plain (OpenSpec.ofChange shiftNeedsSpec)) shiftNeedsCard

/-- THE TIED CARD OF 'metrolablaw45.ShiftMoves'. -/
def shiftMovesCard : Claim7 := { stood := { row := shiftMovesRow, standIns := [], harness := (true, "f18153857b4b6f31f394d2f58f264315caa6e04f9ea66e9a324531f6a1a8e416"), looks := true }, kinds := [], alts := [], laidByText := true, laidKinds := [.data, .data, .data, .data, .data, .sentinel, .sentinel, .pinned], laidTests := true, laidLooks := .later }
def ShiftMovesCardSaid : Prop := Claim7.holds Tryz.pinned (.plain (OpenSpec.ofChange shiftMovesSpec)) shiftMovesCard

/-- THE TIED CARD OF 'metrolablaw45.ShiftEnough'. -/
def shiftEnoughCard : Claim7 := { stood := { row := shiftEnoughRow, standIns := [], harness := (true, "f18153857b4b6f31f394d2f58f264315caa6e04f9ea66e9a324531f6a1a8e416"), looks := true }, kinds := [], alts := [], laidByText := true, laidKinds := [.data, .data, .data, .data, .data, .sentinel, .sentinel, .pinned], laidTests := true, laidLooks := .later }
def ShiftEnoughCardSaid : Prop := Claim7.holds Tryz.pinned (.plain (OpenSpec.ofChange shiftEnoughSpec)) shiftEnoughCard

/-- THE TIED CARD OF 'metrolablaw45.ShiftVerifies'. -/
def shiftVerifiesCard : Claim7 := { stood := { row := shiftVerifiesRow, standIns := [], harness := (true, "f18153857b4b6f31f394d2f58f264315caa6e04f9ea66e9a324531f6a1a8e416"), looks := true }, kinds := [], alts := [], laidByText := true, laidKinds := [.data, .data, .data, .data, .data, .sentinel, .sentinel, .pinned], laidTests := true, laidLooks := .later }
def ShiftVerifiesCardSaid : Prop := Claim7.holds Tryz.pinned (.plain (OpenSpec.ofChange shiftVerifiesSpec)) shiftVerifiesCard

/-- THE TIED CARD OF 'metrolablaw45.ShiftProves'. -/
def shiftProvesCard : Claim7 := { stood := { row := shiftProvesRow, standIns := [], harness := (true, "f18153857b4b6f31f394d2f58f264315caa6e04f9ea66e9a324531f6a1a8e416"), looks := true }, kinds := [], alts := [], laidByText := true, laidKinds := [.data, .data, .data, .data, .data, .sentinel, .sentinel, .pinned], laidTests := true, laidLooks := .later }
def ShiftProvesCardSaid : Prop := Claim7.holds Tryz.pinned (.plain (OpenSpec.ofChange shiftProvesSpec)) shiftProvesCard

/-- THE TIED CARD OF 'metrolablaw45.ShiftKeeps'. -/
def shiftKeepsCard : Claim7 := { stood := { row := shiftKeepsRow, standIns := [], harness := (true, "f18153857b4b6f31f394d2f58f264315caa6e04f9ea66e9a324531f6a1a8e416"), looks := true }, kinds := [], alts := [], laidByText := true, laidKinds := [.data, .data, .data, .data, .data, .sentinel, .sentinel, .pinned], laidTests := true, laidLooks := .later }
def ShiftKeepsCardSaid : Prop := Claim7.holds Tryz.pinned (.plain (OpenSpec.ofChange shiftKeepsSpec)) shiftKeepsCard

/-- THE SECOND FORM's CARD OF 'metrolablaw45.ShiftZones'. -/
def shiftZonesUptoCard : Claim7 := { stood := { row := shiftZonesUptoRow, standIns := [], harness := (true, "f18153857b4b6f31f394d2f58f264315caa6e04f9ea66e9a324531f6a1a8e416"), looks := true }, kinds := [], alts := [], laidByText := true, laidKinds := [.data, .data, .data, .data, .data, .sentinel, .sentinel, .pinned], laidTests := true, laidLooks := .later }
def ShiftZonesUptoCardSaid : Prop := Claim7.holds Tryz.pinned (.plain (OpenSpec.upto shiftZonesSpec)) shiftZonesUptoCard

/-- THE SECOND FORM's CARD OF 'metrolablaw45.ShiftDoes'. -/
def shiftDoesUptoCard : Claim7 := { stood := { row := shiftDoesUptoRow, standIns := [], harness := (true, "f18153857b4b6f31f394d2f58f264315caa6e04f9ea66e9a324531f6a1a8e416"), looks := true }, kinds := [], alts := [], laidByText := true, laidKinds := [.data, .data, .data, .data, .data, .sentinel, .sentinel, .pinned], laidTests := true, laidLooks := .later }
def ShiftDoesUptoCardSaid : Prop := Claim7.holds Tryz.pinned (.plain (OpenSpec.upto shiftDoesSpec)) shiftDoesUptoCard

/-- THE SECOND FORM's CARD OF 'metrolablaw45.ShiftFinds'. -/
def shiftFindsUptoCard : Claim7 := { stood := { row := shiftFindsUptoRow, standIns := [], harness := (true, "f18153857b4b6f31f394d2f58f264315caa6e04f9ea66e9a324531f6a1a8e416"), looks := true }, kinds := [], alts := [], laidByText := true, laidKinds := [.data, .data, .data, .data, .data, .sentinel, .sentinel, .pinned], laidTests := true, laidLooks := .later }
def ShiftFindsUptoCardSaid : Prop := Claim7.holds Tryz.pinned (.plain (OpenSpec.upto shiftFindsSpec)) shiftFindsUptoCard

/-- THE SECOND FORM's CARD OF 'metrolablaw45.ShiftNeeds'. -/
def shiftNeedsUptoCard : Claim7 := { stood := { row := shiftNeedsUptoRow, standIns := [], harness := (true, "f18153857b4b6f31f394d2f58f264315caa6e04f9ea66e9a324531f6a1a8e416"), looks := true }, kinds := [], alts := [], laidByText := true, laidKinds := [.data, .data, .data, .data, .data, .sentinel, .sentinel, .pinned], laidTests := true, laidLooks := .later }
def ShiftNeedsUptoCardSaid : Prop := Claim7.holds Tryz.pinned (.plain (OpenSpec.upto shiftNeedsSpec)) shiftNeedsUptoCard

/-- THE SECOND FORM's CARD OF 'metrolablaw45.ShiftMoves'. -/
def shiftMovesUptoCard : Claim7 := { stood := { row := shiftMovesUptoRow, standIns := [], harness := (true, "f18153857b4b6f31f394d2f58f264315caa6e04f9ea66e9a324531f6a1a8e416"), looks := true }, kinds := [], alts := [], laidByText := true, laidKinds := [.data, .data, .data, .data, .data, .sentinel, .sentinel, .pinned], laidTests := true, laidLooks := .later }
def ShiftMovesUptoCardSaid : Prop := Claim7.holds Tryz.pinned (.plain (OpenSpec.upto shiftMovesSpec)) shiftMovesUptoCard

/-- THE SECOND FORM's CARD OF 'metrolablaw45.ShiftEnough'. -/
def shiftEnoughUptoCard : Claim7 := { stood := { row := shiftEnoughUptoRow, standIns := [], harness := (true, "f18153857b4b6f31f394d2f58f264315caa6e04f9ea66e9a324531f6a1a8e416"), looks := true }, kinds := [], alts := [], laidByText := true, laidKinds := [.data, .data, .data, .data, .data, .sentinel, .sentinel, .pinned], laidTests := true, laidLooks := .later }
def ShiftEnoughUptoCardSaid : Prop := Claim7.holds Tryz.pinned (.plain (OpenSpec.upto shiftEnoughSpec)) shiftEnoughUptoCard

/-- THE SECOND FORM's CARD OF 'metrolablaw45.ShiftVerifies'. -/
def shiftVerifiesUptoCard : Claim7 := { stood := { row := shiftVerifiesUptoRow, standIns := [], harness := (true, "f18153857b4b6f31f394d2f58f264315caa6e04f9ea66e9a324531f6a1a8e416"), looks := true }, kinds := [], alts := [], laidByText := true, laidKinds := [.data, .data, .data, .data, .data, .sentinel, .sentinel, .pinned], laidTests := true, laidLooks := .later }
def ShiftVerifiesUptoCardSaid : Prop := Claim7.holds Tryz.pinned (.plain (OpenSpec.upto shiftVerifiesSpec)) shiftVerifiesUptoCard

/-- THE SECOND FORM's CARD OF 'metrolablaw45.ShiftProves'. -/
def shiftProvesUptoCard : Claim7 := { stood := { row := shiftProvesUptoRow, standIns := [], harness := (true, "f18153857b4b6f31f394d2f58f264315caa6e04f9ea66e9a324531f6a1a8e416"), looks := true }, kinds := [], alts := [], laidByText := true, laidKinds := [.data, .data, .data, .data, .data, .sentinel, .sentinel, .pinned], laidTests := true, laidLooks := .later }
def ShiftProvesUptoCardSaid : Prop := Claim7.holds Tryz.pinned (.plain (OpenSpec.upto shiftProvesSpec)) shiftProvesUptoCard

/-- THE SECOND FORM's CARD OF 'metrolablaw45.ShiftKeeps'. -/
def shiftKeepsUptoCard : Claim7 := { stood := { row := shiftKeepsUptoRow, standIns := [], harness := (true, "f18153857b4b6f31f394d2f58f264315caa6e04f9ea66e9a324531f6a1a8e416"), looks := true }, kinds := [], alts := [], laidByText := true, laidKinds := [.data, .data, .data, .data, .data, .sentinel, .sentinel, .pinned], laidTests := true, laidLooks := .later }
def ShiftKeepsUptoCardSaid : Prop := Claim7.holds Tryz.pinned (.plain (OpenSpec.upto shiftKeepsSpec)) shiftKeepsUptoCard
end Rows
end Go.Proofs.YtdknneofiefieaaGreatDoor
