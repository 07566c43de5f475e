/-
  DERIVED. GIVEN WITH THE SEED: THE CARDS: each row of YtgioppkggpfnoaaDoorRows.lean that lists a variable, with what it lists TIED to the program's text (the seventh form; the later family's looks); each row that meets fmt, with fmt's text TOLD by the authors' own Lean function (tested against real Go, not proved from fmt's source: count such statements apart). THE CARD IS WHAT COUNTS. Prove the row's statement (the work); the ties are given (YtgioppkggpfnoaaDoorTie.lean); close each card by the builder's one call (the guide's Derived/Test/ToyasCard.lean, 'card_holds'). Laid BY PROGRAM, IN A SANDBOX (cutbox-door.mjs). By AI agents, Wed Nov 11 2026. No macro, syntax, notation, axiom, sorry.
-/
import Derived.Test.YtgioppkggpfnoaaDoorRows
import GoSem.ClaimSeven
namespace Go.Proofs.YtgioppkggpfnoaaDoor
namespace Rows

/-- THE TIED CARD OF 'girdletop.WholeShifts'. -/
def wholeShiftsCard : Claim7 := { stood := { row := wholeShiftsRow, standIns := [], harness := (true, "28de328f3ae713d5475e4c2760cae8000d47adb3635f822d1403c37c7c234835"), looks := false }, kinds := [], alts := [], laidByText := true, laidKinds := [.data, .pinned], laidTests := true, laidLooks := .later }
def WholeShiftsCardSaid : Prop := Claim7.holds Tryd.pinned (.plain (OpenSpec.ofChange wholeShiftsSpec)) wholeShiftsCard

/-- THE TIED CARD OF 'girdlelaw18.JoinHolds'. -/
def joinHoldsCard : Claim7 := { stood := { row := joinHoldsRow, standIns := [], harness := (true, "28de328f3ae713d5475e4c2760cae8000d47adb3635f822d1403c37c7c234835"), looks := false }, kinds := [], alts := [], laidByText := true, laidKinds := [.data], laidTests := true, laidLooks := .later }
def JoinHoldsCardSaid : Prop := Claim7.holds Tryd.pinned (.plain (OpenSpec.ofChange joinHoldsSpec)) joinHoldsCard

/-- THE TIED CARD OF 'girdletop.WholeHeld'. -/
def wholeHeldCard : Claim7 := { stood := { row := wholeHeldRow, standIns := [], harness := (true, "28de328f3ae713d5475e4c2760cae8000d47adb3635f822d1403c37c7c234835"), looks := false }, kinds := [], alts := [], laidByText := true, laidKinds := [.data], laidTests := true, laidLooks := .later }
def WholeHeldCardSaid : Prop := Claim7.holds Tryd.pinned (.plain (OpenSpec.ofChange wholeHeldSpec)) wholeHeldCard

/-- THE TIED CARD OF 'girdlelaw18.JoinSame'. -/
def joinSameCard : Claim7 := { stood := { row := joinSameRow, standIns := [], harness := (true, "28de328f3ae713d5475e4c2760cae8000d47adb3635f822d1403c37c7c234835"), looks := false }, kinds := [], alts := [], laidByText := true, laidKinds := [.data], laidTests := true, laidLooks := .later }
def JoinSameCardSaid : Prop := Claim7.holds Tryd.pinned (.plain (OpenSpec.ofChange joinSameSpec)) joinSameCard

/-- THE TIED CARD OF 'girdlelaw18.JoinShapes'. -/
def joinShapesCard : Claim7 := { stood := { row := joinShapesRow, standIns := [], harness := (true, "28de328f3ae713d5475e4c2760cae8000d47adb3635f822d1403c37c7c234835"), looks := false }, kinds := [], alts := [], laidByText := true, laidKinds := [.data], laidTests := true, laidLooks := .later }
def JoinShapesCardSaid : Prop := Claim7.holds Tryd.pinned (.plain (OpenSpec.ofChange joinShapesSpec)) joinShapesCard

/-- THE TIED CARD OF 'girdlelaw18.JoinBetween'. -/
def joinBetweenCard : Claim7 := { stood := { row := joinBetweenRow, standIns := [], harness := (true, "28de328f3ae713d5475e4c2760cae8000d47adb3635f822d1403c37c7c234835"), looks := false }, kinds := [], alts := [], laidByText := true, laidKinds := [.data], laidTests := true, laidLooks := .later }
def JoinBetweenCardSaid : Prop := Claim7.holds Tryd.pinned (.plain (OpenSpec.ofChange joinBetweenSpec)) joinBetweenCard

/-- THE TIED CARD OF 'girdlelaw17.ReduceNorms'. -/
def reduceNormsCard : Claim7 := { stood := { row := reduceNormsRow, standIns := [], harness := (true, "28de328f3ae713d5475e4c2760cae8000d47adb3635f822d1403c37c7c234835"), looks := false }, kinds := [], alts := [], laidByText := true, laidKinds := [.data], laidTests := true, laidLooks := .later }
def ReduceNormsCardSaid : Prop := Claim7.holds Tryd.pinned (.plain (OpenSpec.ofChange reduceNormsSpec)) reduceNormsCard

/-- THE TIED CARD OF 'girdlelaw17.ReduceBoxes'. -/
def reduceBoxesCard : Claim7 := { stood := { row := reduceBoxesRow, standIns := [], harness := (true, "28de328f3ae713d5475e4c2760cae8000d47adb3635f822d1403c37c7c234835"), looks := false }, kinds := [], alts := [], laidByText := true, laidKinds := [.data], laidTests := true, laidLooks := .later }
def ReduceBoxesCardSaid : Prop := Claim7.holds Tryd.pinned (.plain (OpenSpec.ofChange reduceBoxesSpec)) reduceBoxesCard

/-- THE TIED CARD OF 'girdletop.WholeReduced'. -/
def wholeReducedCard : Claim7 := { stood := { row := wholeReducedRow, standIns := [], harness := (true, "28de328f3ae713d5475e4c2760cae8000d47adb3635f822d1403c37c7c234835"), looks := false }, kinds := [], alts := [], laidByText := true, laidKinds := [.data], laidTests := true, laidLooks := .later }
def WholeReducedCardSaid : Prop := Claim7.holds Tryd.pinned (.plain (OpenSpec.ofChange wholeReducedSpec)) wholeReducedCard

/-- THE TIED CARD OF 'girdletop.WholeSums'. -/
def wholeSumsCard : Claim7 := { stood := { row := wholeSumsRow, standIns := [], harness := (true, "28de328f3ae713d5475e4c2760cae8000d47adb3635f822d1403c37c7c234835"), looks := false }, kinds := [], alts := [], laidByText := true, laidKinds := [.data, .pinned], laidTests := true, laidLooks := .later }
def WholeSumsCardSaid : Prop := Claim7.holds Tryd.pinned (.plain (OpenSpec.ofChange wholeSumsSpec)) wholeSumsCard

/-- THE SECOND FORM's CARD OF 'girdletop.WholeShifts'. -/
def wholeShiftsUptoCard : Claim7 := { stood := { row := wholeShiftsUptoRow, standIns := [], harness := (true, "28de328f3ae713d5475e4c2760cae8000d47adb3635f822d1403c37c7c234835"), looks := false }, kinds := [], alts := [], laidByText := true, laidKinds := [.data, .pinned], laidTests := true, laidLooks := .later }
def WholeShiftsUptoCardSaid : Prop := Claim7.holds Tryd.pinned (.plain (OpenSpec.upto wholeShiftsSpec)) wholeShiftsUptoCard

/-- THE SECOND FORM's CARD OF 'girdlelaw18.JoinHolds'. -/
def joinHoldsUptoCard : Claim7 := { stood := { row := joinHoldsUptoRow, standIns := [], harness := (true, "28de328f3ae713d5475e4c2760cae8000d47adb3635f822d1403c37c7c234835"), looks := false }, kinds := [], alts := [], laidByText := true, laidKinds := [.data], laidTests := true, laidLooks := .later }
def JoinHoldsUptoCardSaid : Prop := Claim7.holds Tryd.pinned (.plain (OpenSpec.upto joinHoldsSpec)) joinHoldsUptoCard

/-- THE SECOND FORM's CARD OF 'girdletop.WholeHeld'. -/
def wholeHeldUptoCard : Claim7 := { stood := { row := wholeHeldUptoRow, standIns := [], harness := (true, "28de328f3ae713d5475e4c2760cae8000d47adb3635f822d1403c37c7c234835"), looks := false }, kinds := [], alts := [], laidByText := true, laidKinds := [.data], laidTests := true, laidLooks := .later }
def WholeHeldUptoCardSaid : Prop := Claim7.holds Tryd.pinned (.plain (OpenSpec.upto wholeHeldSpec)) wholeHeldUptoCard

/-- THE SECOND FORM's CARD OF 'girdlelaw18.JoinSame'. -/
def joinSameUptoCard : Claim7 := { stood := { row := joinSameUptoRow, standIns := [], harness := (true, "28de328f3ae713d5475e4c2760cae8000d47adb3635f822d1403c37c7c234835"), looks := false }, kinds := [], alts := [], laidByText := true, laidKinds := [.data], laidTests := true, laidLooks := .later }
def JoinSameUptoCardSaid : Prop := Claim7.holds Tryd.pinned (.plain (OpenSpec.upto joinSameSpec)) joinSameUptoCard

/-- THE SECOND FORM's CARD OF 'girdlelaw18.JoinShapes'. -/
def joinShapesUptoCard : Claim7 := { stood := { row := joinShapesUptoRow, standIns := [], harness := (true, "28de328f3ae713d5475e4c2760cae8000d47adb3635f822d1403c37c7c234835"), looks := false }, kinds := [], alts := [], laidByText := true, laidKinds := [.data], laidTests := true, laidLooks := .later }
def JoinShapesUptoCardSaid : Prop := Claim7.holds Tryd.pinned (.plain (OpenSpec.upto joinShapesSpec)) joinShapesUptoCard

/-- THE SECOND FORM's CARD OF 'girdlelaw18.JoinBetween'. -/
def joinBetweenUptoCard : Claim7 := { stood := { row := joinBetweenUptoRow, standIns := [], harness := (true, "28de328f3ae713d5475e4c2760cae8000d47adb3635f822d1403c37c7c234835"), looks := false }, kinds := [], alts := [], laidByText := true, laidKinds := [.data], laidTests := true, laidLooks := .later }
def JoinBetweenUptoCardSaid : Prop := Claim7.holds Tryd.pinned (.plain (OpenSpec.upto joinBetweenSpec)) joinBetweenUptoCard

/-- THE SECOND FORM's CARD OF 'girdlelaw17.ReduceNorms'. -/
def reduceNormsUptoCard : Claim7 := { stood := { row := reduceNormsUptoRow, standIns := [], harness := (true, "28de328f3ae713d5475e4c2760cae8000d47adb3635f822d1403c37c7c234835"), looks := false }, kinds := [], alts := [], laidByText := true, laidKinds := [.data], laidTests := true, laidLooks := .later }
def ReduceNormsUptoCardSaid : Prop := Claim7.holds Tryd.pinned (.plain (OpenSpec.upto reduceNormsSpec)) reduceNormsUptoCard

/-- THE SECOND FORM's CARD OF 'girdlelaw17.ReduceBoxes'. -/
def reduceBoxesUptoCard : Claim7 := { stood := { row := reduceBoxesUptoRow, standIns := [], harness := (true, "28de328f3ae713d5475e4c2760cae8000d47adb3635f822d1403c37c7c234835"), looks := false }, kinds := [], alts := [], laidByText := true, laidKinds := [.data], laidTests := true, laidLooks := .later }
def ReduceBoxesUptoCardSaid : Prop := Claim7.holds Tryd.pinned (.plain (OpenSpec.upto reduceBoxesSpec)) reduceBoxesUptoCard

/-- THE SECOND FORM's CARD OF 'girdletop.WholeReduced'. -/
def wholeReducedUptoCard : Claim7 := { stood := { row := wholeReducedUptoRow, standIns := [], harness := (true, "28de328f3ae713d5475e4c2760cae8000d47adb3635f822d1403c37c7c234835"), looks := false }, kinds := [], alts := [], laidByText := true, laidKinds := [.data], laidTests := true, laidLooks := .later }
def WholeReducedUptoCardSaid : Prop := Claim7.holds Tryd.pinned (.plain (OpenSpec.upto wholeReducedSpec)) wholeReducedUptoCard

/-- THE SECOND FORM's CARD OF 'girdletop.WholeSums'. -/
def wholeSumsUptoCard : Claim7 := { stood := { row := wholeSumsUptoRow, standIns := [], harness := (true, "28de328f3ae713d5475e4c2760cae8000d47adb3635f822d1403c37c7c234835"), looks := false }, kinds := [], alts := [], laidByText := true, laidKinds := [.data, .pinned], laidTests := true, laidLooks := .later }
def WholeSumsUptoCardSaid : Prop := Claim7.holds Tryd.pinned (.plain (OpenSpec.upto wholeSumsSpec)) wholeSumsUptoCard
end Rows
end Go.Proofs.YtgioppkggpfnoaaDoor
