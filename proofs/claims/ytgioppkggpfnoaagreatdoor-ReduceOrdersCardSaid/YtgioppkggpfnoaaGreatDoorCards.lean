/-
  DERIVED. GIVEN WITH THE SEED: THE CARDS: each row of YtgioppkggpfnoaaGreatDoorRows.lean that lists a variable, with what it lists TIED to the program's text (the seventh form; the later family's looks); each row that meets fmt, with fmt's text TOLD by the authors' own Lean function (tested against real Go, not proved from fmt's source: count such statements apart). THE CARD IS WHAT COUNTS. Prove the row's statement (the work); the ties are given (YtgioppkggpfnoaaGreatDoorTie.lean); close each card by the builder's one call (the guide's Derived/Test/ToyasCard.lean, 'card_holds'). Laid BY PROGRAM, IN A SANDBOX (cutbox-door.mjs). By AI agents, Wed Nov 11 2026. No macro, syntax, notation, axiom, sorry.
-/
import Derived.Test.YtgioppkggpfnoaaGreatDoorRows
import GoSem.ClaimSeven
namespace Go.Proofs.YtgioppkggpfnoaaGreatDoor
namespace Rows

/-- THE TIED CARD OF 'girdlelaw17.ReduceOrders'. -/
def reduceOrdersCard : Claim7 := { stood := { row := reduceOrdersRow, standIns := [], harness := (true, "6ef0715c57cc9c9d24e2c78e8ad0fcc0bade80e3580c1c7159062f536be18f06"), looks := false }, kinds := [], alts := [], laidByText := true, laidKinds := [.data], laidTests := true, laidLooks := .later }
def ReduceOrdersCardSaid : Prop := Claim7.holds Tryz.pinned (.plain (OpenSpec.ofChange reduceOrdersSpec)) reduceOrdersCard

/-- THE TIED CARD OF 'girdlelaw17.ReduceMerges'. -/
def reduceMergesCard : Claim7 := { stood := { row := reduceMergesRow, standIns := [], harness := (true, "6ef0715c57cc9c9d24e2c78e8ad0fcc0bade80e3580c1c7159062f536be18f06"), looks := false }, kinds := [], alts := [], laidByText := true, laidKinds := [.data], laidTests := true, laidLooks := .later }
def ReduceMergesCardSaid : Prop := Claim7.holds Tryz.pinned (.plain (OpenSpec.ofChange reduceMergesSpec)) reduceMergesCard

/-- THE SECOND FORM's CARD OF 'girdlelaw17.ReduceOrders'. -/
def reduceOrdersUptoCard : Claim7 := { stood := { row := reduceOrdersUptoRow, standIns := [], harness := (true, "6ef0715c57cc9c9d24e2c78e8ad0fcc0bade80e3580c1c7159062f536be18f06"), looks := false }, kinds := [], alts := [], laidByText := true, laidKinds := [.data], laidTests := true, laidLooks := .later }
def ReduceOrdersUptoCardSaid : Prop := Claim7.holds Tryz.pinned (.plain (OpenSpec.upto reduceOrdersSpec)) reduceOrdersUptoCard

/-- THE SECOND FORM's CARD OF 'girdlelaw17.ReduceMerges'. -/
def reduceMergesUptoCard : Claim7 := { stood := { row := reduceMergesUptoRow, standIns := [], harness := (true, "6ef0715c57cc9c9d24e2c78e8ad0fcc0bade80e3580c1c7159062f536be18f06"), looks := false }, kinds := [], alts := [], laidByText := true, laidKinds := [.data], laidTests := true, laidLooks := .later }
def ReduceMergesUptoCardSaid : Prop := Claim7.holds Tryz.pinned (.plain (OpenSpec.upto reduceMergesSpec)) reduceMergesUptoCard
end Rows
end Go.Proofs.YtgioppkggpfnoaaGreatDoor
