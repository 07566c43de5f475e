/-
  NARROWER THAN 'FOR EVERY INPUT', by the rows' own cells (each row's printed sentence says how): WholeShifts: laid · JoinHolds: laid · WholeHeld: laid · JoinSame: laid · JoinShapes: laid · JoinBetween: laid · ReduceNorms: laid · ReduceBoxes: laid · WholeReduced: laid · WholeSums: laid.
  DERIVED. THE GIVEN ROWS OF THIS SEAT. 10 by the template 'for every input the law returns true; each argument reads behind the call as it read before'; 0 by the template 'total and deterministic' (their statements: YtgioppkggpfnoaaDoorTotals.lean).
  GIVEN WITH THE SEED: the statements are not yours to turn. If you find one false, say at which input.
  Laid BY PROGRAM, IN A SANDBOX (cutbox-rows.mjs): the forced cells as the released guide's own fill.sh prints them over the translation 21552458da01f620… (all of the seat's roots in one cut). By AI agents, Wed Nov 11 2026. No macro, syntax, notation, axiom, sorry.
-/
import Derived.Test.YtgioppkggpfnoaaDoorChecked
import GoSem.PinnedTables
import GoSem.Claim
import GoSem.ClaimJoined
import GoSem.ClaimMapViews
import Derived.JoinedTies
import Derived.KernelRfl
namespace Go.Proofs.YtgioppkggpfnoaaDoor
/- THE CELL 'sum', in the pinned program and in every row, IS THE sha256 OF THE DUMP (.gsa) THAT YtgioppkggpfnoaaDoorProg.lean LOADS. Nothing in Lean hashes anything: it is a label: what it is worth is what the hold of that sum in a sandbox is worth. -/
noncomputable def Tryd.pinned : Pinned := { name := "ytgioppkggpfnoaadoor", sum := "21552458da01f62058ae1af6627829452c5d121ebb6073c8db6f48c91a0695b2", checked := Tryd.checked }
namespace Rows
def none {H : Type} : Left H := { results := [], args := [] }

/- WHAT THE LISTED PACKAGE-LEVEL VARIABLES READ AS WHEN THE CALL BEGINS. Each datum BY PROGRAM (the guide's laid-datum.mjs) off the statement by which the dump's own 'gosem.cut.vars' lays the variable. In a bare row this is a premise. The card (YtgioppkggpfnoaaDoorCards.lean) ties it to the program's text. -/
def laid_unicode_utf8_acceptRanges {H : Type} : DataW H := .agg [.agg [.lit (.int .u8 128), .lit (.int .u8 191)], .agg [.lit (.int .u8 160), .lit (.int .u8 191)], .agg [.lit (.int .u8 128), .lit (.int .u8 159)], .agg [.lit (.int .u8 144), .lit (.int .u8 191)], .agg [.lit (.int .u8 128), .lit (.int .u8 143)], .agg [.lit (.int .u8 0), .lit (.int .u8 0)], .agg [.lit (.int .u8 0), .lit (.int .u8 0)], .agg [.lit (.int .u8 0), .lit (.int .u8 0)], .agg [.lit (.int .u8 0), .lit (.int .u8 0)], .agg [.lit (.int .u8 0), .lit (.int .u8 0)], .agg [.lit (.int .u8 0), .lit (.int .u8 0)], .agg [.lit (.int .u8 0), .lit (.int .u8 0)], .agg [.lit (.int .u8 0), .lit (.int .u8 0)], .agg [.lit (.int .u8 0), .lit (.int .u8 0)], .agg [.lit (.int .u8 0), .lit (.int .u8 0)], .agg [.lit (.int .u8 0), .lit (.int .u8 0)]]
/-- One of Go's own tables, pinned by name: the form's constant. -/
def laid_unicode_utf8_first : DataW Unit := Go.Pinned.utf8First
def laid_math_bits_deBruijn32tab {H : Type} : DataW H := .agg [.lit (.int .u8 0), .lit (.int .u8 1), .lit (.int .u8 28), .lit (.int .u8 2), .lit (.int .u8 29), .lit (.int .u8 14), .lit (.int .u8 24), .lit (.int .u8 3), .lit (.int .u8 30), .lit (.int .u8 22), .lit (.int .u8 20), .lit (.int .u8 15), .lit (.int .u8 25), .lit (.int .u8 17), .lit (.int .u8 4), .lit (.int .u8 8), .lit (.int .u8 31), .lit (.int .u8 27), .lit (.int .u8 13), .lit (.int .u8 23), .lit (.int .u8 21), .lit (.int .u8 19), .lit (.int .u8 16), .lit (.int .u8 7), .lit (.int .u8 26), .lit (.int .u8 12), .lit (.int .u8 18), .lit (.int .u8 6), .lit (.int .u8 11), .lit (.int .u8 5), .lit (.int .u8 10), .lit (.int .u8 9)]

/-- 'girdletop.WholeShifts': WHATEVER THE INPUT: true; the input reads as it did. -/
def wholeShiftsSpec : ChangeSpec := { name := "wholeShifts", fn := fun _ => fun
  | [d1, d2] => { results := [.lit (.bool true)], args := [d1, d2] }
  | _ => none }
def wholeShiftsRow : OpenClaim := { program := "ytgioppkggpfnoaadoor", sum := "21552458da01f62058ae1af6627829452c5d121ebb6073c8db6f48c91a0695b2", func := "girdle/girdletop.WholeShifts", spec := "wholeShifts", inPlace := ["internal/bytealg.IndexByteString", "internal/bytealg.IndexString", "internal/abi.NoEscape", "internal/bytealg.MakeNoZero"], unfollowed := true, recurses := true, named := ["unicode/utf8.first", "unicode/utf8.acceptRanges", "internal/bytealg.MaxLen"], apart := false, laid := [("unicode/utf8.acceptRanges", laid_unicode_utf8_acceptRanges), ("unicode/utf8.first", laid_unicode_utf8_first)] }
def WholeShiftsSaid : Prop := wholeShiftsRow.holds Tryd.pinned (OpenSpec.ofChange wholeShiftsSpec)

/-- ITS FALSE NEIGHBOUR: 'it returns false'. Refute it at one input. -/
def wholeShiftsWrong : ChangeSpec := { name := "wholeShifts", fn := fun _ => fun
  | [d1, d2] => { results := [.lit (.bool false)], args := [d1, d2] }
  | _ => none }
def WholeShiftsWrongFalsely : Prop := wholeShiftsRow.holds Tryd.pinned (OpenSpec.ofChange wholeShiftsWrong)

/-- 'girdlelaw18.JoinHolds': WHATEVER THE INPUT: true; the input reads as it did. -/
def joinHoldsSpec : ChangeSpec := { name := "joinHolds", fn := fun _ => fun
  | [d1, d2, d3] => { results := [.lit (.bool true)], args := [d1, d2, d3] }
  | _ => none }
def joinHoldsRow : OpenClaim := { program := "ytgioppkggpfnoaadoor", sum := "21552458da01f62058ae1af6627829452c5d121ebb6073c8db6f48c91a0695b2", func := "girdle/girdlelaw18.JoinHolds", spec := "joinHolds", unfollowed := true, recurses := true, named := ["math/bits.deBruijn32tab"], apart := false, laid := [("math/bits.deBruijn32tab", laid_math_bits_deBruijn32tab)] }
def JoinHoldsSaid : Prop := joinHoldsRow.holds Tryd.pinned (OpenSpec.ofChange joinHoldsSpec)

/-- ITS FALSE NEIGHBOUR: 'it returns false'. Refute it at one input. -/
def joinHoldsWrong : ChangeSpec := { name := "joinHolds", fn := fun _ => fun
  | [d1, d2, d3] => { results := [.lit (.bool false)], args := [d1, d2, d3] }
  | _ => none }
def JoinHoldsWrongFalsely : Prop := joinHoldsRow.holds Tryd.pinned (OpenSpec.ofChange joinHoldsWrong)

/-- 'girdletop.WholeHeld': WHATEVER THE INPUT: true; the input reads as it did. -/
def wholeHeldSpec : ChangeSpec := { name := "wholeHeld", fn := fun _ => fun
  | [d1, d2, d3] => { results := [.lit (.bool true)], args := [d1, d2, d3] }
  | _ => none }
def wholeHeldRow : OpenClaim := { program := "ytgioppkggpfnoaadoor", sum := "21552458da01f62058ae1af6627829452c5d121ebb6073c8db6f48c91a0695b2", func := "girdle/girdletop.WholeHeld", spec := "wholeHeld", unfollowed := true, recurses := true, named := ["math/bits.deBruijn32tab"], apart := false, laid := [("math/bits.deBruijn32tab", laid_math_bits_deBruijn32tab)] }
def WholeHeldSaid : Prop := wholeHeldRow.holds Tryd.pinned (OpenSpec.ofChange wholeHeldSpec)

/-- ITS FALSE NEIGHBOUR: 'it returns false'. Refute it at one input. -/
def wholeHeldWrong : ChangeSpec := { name := "wholeHeld", fn := fun _ => fun
  | [d1, d2, d3] => { results := [.lit (.bool false)], args := [d1, d2, d3] }
  | _ => none }
def WholeHeldWrongFalsely : Prop := wholeHeldRow.holds Tryd.pinned (OpenSpec.ofChange wholeHeldWrong)

/-- 'girdlelaw18.JoinSame': WHATEVER THE INPUT: true; the input reads as it did. -/
def joinSameSpec : ChangeSpec := { name := "joinSame", fn := fun _ => fun
  | [d1, d2, d3] => { results := [.lit (.bool true)], args := [d1, d2, d3] }
  | _ => none }
def joinSameRow : OpenClaim := { program := "ytgioppkggpfnoaadoor", sum := "21552458da01f62058ae1af6627829452c5d121ebb6073c8db6f48c91a0695b2", func := "girdle/girdlelaw18.JoinSame", spec := "joinSame", unfollowed := true, recurses := true, named := ["math/bits.deBruijn32tab"], apart := false, laid := [("math/bits.deBruijn32tab", laid_math_bits_deBruijn32tab)] }
def JoinSameSaid : Prop := joinSameRow.holds Tryd.pinned (OpenSpec.ofChange joinSameSpec)

/-- ITS FALSE NEIGHBOUR: 'it returns false'. Refute it at one input. -/
def joinSameWrong : ChangeSpec := { name := "joinSame", fn := fun _ => fun
  | [d1, d2, d3] => { results := [.lit (.bool false)], args := [d1, d2, d3] }
  | _ => none }
def JoinSameWrongFalsely : Prop := joinSameRow.holds Tryd.pinned (OpenSpec.ofChange joinSameWrong)

/-- 'girdlelaw18.JoinShapes': WHATEVER THE INPUT: true; the input reads as it did. -/
def joinShapesSpec : ChangeSpec := { name := "joinShapes", fn := fun _ => fun
  | [d1, d2] => { results := [.lit (.bool true)], args := [d1, d2] }
  | _ => none }
def joinShapesRow : OpenClaim := { program := "ytgioppkggpfnoaadoor", sum := "21552458da01f62058ae1af6627829452c5d121ebb6073c8db6f48c91a0695b2", func := "girdle/girdlelaw18.JoinShapes", spec := "joinShapes", unfollowed := true, recurses := true, named := ["math/bits.deBruijn32tab"], apart := false, laid := [("math/bits.deBruijn32tab", laid_math_bits_deBruijn32tab)] }
def JoinShapesSaid : Prop := joinShapesRow.holds Tryd.pinned (OpenSpec.ofChange joinShapesSpec)

/-- ITS FALSE NEIGHBOUR: 'it returns false'. Refute it at one input. -/
def joinShapesWrong : ChangeSpec := { name := "joinShapes", fn := fun _ => fun
  | [d1, d2] => { results := [.lit (.bool false)], args := [d1, d2] }
  | _ => none }
def JoinShapesWrongFalsely : Prop := joinShapesRow.holds Tryd.pinned (OpenSpec.ofChange joinShapesWrong)

/-- 'girdlelaw18.JoinBetween': WHATEVER THE INPUT: true; the input reads as it did. -/
def joinBetweenSpec : ChangeSpec := { name := "joinBetween", fn := fun _ => fun
  | [d1, d2, d3] => { results := [.lit (.bool true)], args := [d1, d2, d3] }
  | _ => none }
def joinBetweenRow : OpenClaim := { program := "ytgioppkggpfnoaadoor", sum := "21552458da01f62058ae1af6627829452c5d121ebb6073c8db6f48c91a0695b2", func := "girdle/girdlelaw18.JoinBetween", spec := "joinBetween", unfollowed := true, recurses := true, named := ["math/bits.deBruijn32tab"], apart := false, laid := [("math/bits.deBruijn32tab", laid_math_bits_deBruijn32tab)] }
def JoinBetweenSaid : Prop := joinBetweenRow.holds Tryd.pinned (OpenSpec.ofChange joinBetweenSpec)

/-- ITS FALSE NEIGHBOUR: 'it returns false'. Refute it at one input. -/
def joinBetweenWrong : ChangeSpec := { name := "joinBetween", fn := fun _ => fun
  | [d1, d2, d3] => { results := [.lit (.bool false)], args := [d1, d2, d3] }
  | _ => none }
def JoinBetweenWrongFalsely : Prop := joinBetweenRow.holds Tryd.pinned (OpenSpec.ofChange joinBetweenWrong)

/-- 'girdlelaw17.ReduceNorms': WHATEVER THE INPUT: true; the input reads as it did. -/
def reduceNormsSpec : ChangeSpec := { name := "reduceNorms", fn := fun _ => fun
  | [d] => { results := [.lit (.bool true)], args := [d] }
  | _ => none }
def reduceNormsRow : OpenClaim := { program := "ytgioppkggpfnoaadoor", sum := "21552458da01f62058ae1af6627829452c5d121ebb6073c8db6f48c91a0695b2", func := "girdle/girdlelaw17.ReduceNorms", spec := "reduceNorms", unfollowed := true, recurses := true, named := ["math/bits.deBruijn32tab"], apart := false, laid := [("math/bits.deBruijn32tab", laid_math_bits_deBruijn32tab)] }
def ReduceNormsSaid : Prop := reduceNormsRow.holds Tryd.pinned (OpenSpec.ofChange reduceNormsSpec)

/-- ITS FALSE NEIGHBOUR: 'it returns false'. Refute it at one input. -/
def reduceNormsWrong : ChangeSpec := { name := "reduceNorms", fn := fun _ => fun
  | [d] => { results := [.lit (.bool false)], args := [d] }
  | _ => none }
def ReduceNormsWrongFalsely : Prop := reduceNormsRow.holds Tryd.pinned (OpenSpec.ofChange reduceNormsWrong)

/-- 'girdlelaw17.ReduceBoxes': WHATEVER THE INPUT: true; the input reads as it did. -/
def reduceBoxesSpec : ChangeSpec := { name := "reduceBoxes", fn := fun _ => fun
  | [d] => { results := [.lit (.bool true)], args := [d] }
  | _ => none }
def reduceBoxesRow : OpenClaim := { program := "ytgioppkggpfnoaadoor", sum := "21552458da01f62058ae1af6627829452c5d121ebb6073c8db6f48c91a0695b2", func := "girdle/girdlelaw17.ReduceBoxes", spec := "reduceBoxes", unfollowed := true, recurses := true, named := ["math/bits.deBruijn32tab"], apart := false, laid := [("math/bits.deBruijn32tab", laid_math_bits_deBruijn32tab)] }
def ReduceBoxesSaid : Prop := reduceBoxesRow.holds Tryd.pinned (OpenSpec.ofChange reduceBoxesSpec)

/-- ITS FALSE NEIGHBOUR: 'it returns false'. Refute it at one input. -/
def reduceBoxesWrong : ChangeSpec := { name := "reduceBoxes", fn := fun _ => fun
  | [d] => { results := [.lit (.bool false)], args := [d] }
  | _ => none }
def ReduceBoxesWrongFalsely : Prop := reduceBoxesRow.holds Tryd.pinned (OpenSpec.ofChange reduceBoxesWrong)

/-- 'girdletop.WholeReduced': WHATEVER THE INPUT: true; the input reads as it did. -/
def wholeReducedSpec : ChangeSpec := { name := "wholeReduced", fn := fun _ => fun
  | [d1, d2, d3] => { results := [.lit (.bool true)], args := [d1, d2, d3] }
  | _ => none }
def wholeReducedRow : OpenClaim := { program := "ytgioppkggpfnoaadoor", sum := "21552458da01f62058ae1af6627829452c5d121ebb6073c8db6f48c91a0695b2", func := "girdle/girdletop.WholeReduced", spec := "wholeReduced", unfollowed := true, recurses := true, named := ["math/bits.deBruijn32tab"], apart := false, laid := [("math/bits.deBruijn32tab", laid_math_bits_deBruijn32tab)] }
def WholeReducedSaid : Prop := wholeReducedRow.holds Tryd.pinned (OpenSpec.ofChange wholeReducedSpec)

/-- ITS FALSE NEIGHBOUR: 'it returns false'. Refute it at one input. -/
def wholeReducedWrong : ChangeSpec := { name := "wholeReduced", fn := fun _ => fun
  | [d1, d2, d3] => { results := [.lit (.bool false)], args := [d1, d2, d3] }
  | _ => none }
def WholeReducedWrongFalsely : Prop := wholeReducedRow.holds Tryd.pinned (OpenSpec.ofChange wholeReducedWrong)

/-- 'girdletop.WholeSums': WHATEVER THE INPUT: true; the input reads as it did. -/
def wholeSumsSpec : ChangeSpec := { name := "wholeSums", fn := fun _ => fun
  | [d1, d2] => { results := [.lit (.bool true)], args := [d1, d2] }
  | _ => none }
def wholeSumsRow : OpenClaim := { program := "ytgioppkggpfnoaadoor", sum := "21552458da01f62058ae1af6627829452c5d121ebb6073c8db6f48c91a0695b2", func := "girdle/girdletop.WholeSums", spec := "wholeSums", inPlace := ["internal/bytealg.IndexByteString", "internal/bytealg.IndexString"], unfollowed := true, recurses := true, named := ["internal/bytealg.MaxLen", "unicode/utf8.first", "unicode/utf8.acceptRanges"], apart := false, laid := [("unicode/utf8.acceptRanges", laid_unicode_utf8_acceptRanges), ("unicode/utf8.first", laid_unicode_utf8_first)] }
def WholeSumsSaid : Prop := wholeSumsRow.holds Tryd.pinned (OpenSpec.ofChange wholeSumsSpec)

/-- ITS FALSE NEIGHBOUR: 'it returns false'. Refute it at one input. -/
def wholeSumsWrong : ChangeSpec := { name := "wholeSums", fn := fun _ => fun
  | [d1, d2] => { results := [.lit (.bool false)], args := [d1, d2] }
  | _ => none }
def WholeSumsWrongFalsely : Prop := wholeSumsRow.holds Tryd.pinned (OpenSpec.ofChange wholeSumsWrong)

/- THE SECOND FORM. 'bulk': how many values and letters a reading holds, each counted each time it is reached (what is shared counts as often as it is met; a slice's spare places count too). A statement '..UptoSaid' is the law's where the arguments, and the package variables that the reading takes, are together of bulk at most 1048576: NARROWER than '..Said'. Prove '..Said' where nothing that the law and all that it calls make is longer than what came in: it says more and counts as full. Else prove '..UptoSaid'. A law counts once. -/
mutual
def uptoBulk {H : Type} : DataW H → Nat
  | .lit (.string bytes) => bytes.length + 1
  | .lit _ => 1
  | .nil => 1
  | .ptr d => uptoBulk d + 1
  | .slice elems spare => uptoBulkAll elems + uptoBulkAll spare + 1
  | .agg parts => uptoBulkAll parts + 1
  | .iface _ d => uptoBulk d + 1
  | .map entries => uptoBulkEntries entries + 1
  | .held _ => 1
def uptoBulkAll {H : Type} : List (DataW H) → Nat
  | [] => 0
  | d :: r => uptoBulk d + uptoBulkAll r
def uptoBulkEntries {H : Type} : List (Lit × DataW H) → Nat
  | [] => 0
  | x :: r => uptoBulkEntry x + uptoBulkEntries r
def uptoBulkEntry {H : Type} : Lit × DataW H → Nat
  | (.string bytes, d) => bytes.length + uptoBulk d + 1
  | (_, d) => uptoBulk d + 1
 end
def uptoSmall : (H : Type) → List (DataW H) → Bool := fun _ ds => decide (uptoBulkAll ds ≤ 1048576)
def OpenSpec.upto (s : _root_.Go.ChangeSpec) : _root_.Go.OpenSpec := { _root_.Go.OpenSpec.ofChange s with cond := some uptoSmall }

/-- 'girdletop.WholeShifts', WHERE WHAT IT READS IS OF BULK AT MOST 1048576: true; the input reads as it did. -/
def wholeShiftsUptoRow : OpenClaim := { program := "ytgioppkggpfnoaadoor", sum := "21552458da01f62058ae1af6627829452c5d121ebb6073c8db6f48c91a0695b2", func := "girdle/girdletop.WholeShifts", spec := "wholeShifts", inPlace := ["internal/bytealg.IndexByteString", "internal/bytealg.IndexString", "internal/abi.NoEscape", "internal/bytealg.MakeNoZero"], unfollowed := true, recurses := true, named := ["unicode/utf8.first", "unicode/utf8.acceptRanges", "internal/bytealg.MaxLen"], apart := false, laid := [("unicode/utf8.acceptRanges", laid_unicode_utf8_acceptRanges), ("unicode/utf8.first", laid_unicode_utf8_first)], narrowed := true }
def WholeShiftsUptoSaid : Prop := wholeShiftsUptoRow.holds Tryd.pinned (OpenSpec.upto wholeShiftsSpec)

/-- 'girdlelaw18.JoinHolds', WHERE WHAT IT READS IS OF BULK AT MOST 1048576: true; the input reads as it did. -/
def joinHoldsUptoRow : OpenClaim := { program := "ytgioppkggpfnoaadoor", sum := "21552458da01f62058ae1af6627829452c5d121ebb6073c8db6f48c91a0695b2", func := "girdle/girdlelaw18.JoinHolds", spec := "joinHolds", unfollowed := true, recurses := true, named := ["math/bits.deBruijn32tab"], apart := false, laid := [("math/bits.deBruijn32tab", laid_math_bits_deBruijn32tab)], narrowed := true }
def JoinHoldsUptoSaid : Prop := joinHoldsUptoRow.holds Tryd.pinned (OpenSpec.upto joinHoldsSpec)

/-- 'girdletop.WholeHeld', WHERE WHAT IT READS IS OF BULK AT MOST 1048576: true; the input reads as it did. -/
def wholeHeldUptoRow : OpenClaim := { program := "ytgioppkggpfnoaadoor", sum := "21552458da01f62058ae1af6627829452c5d121ebb6073c8db6f48c91a0695b2", func := "girdle/girdletop.WholeHeld", spec := "wholeHeld", unfollowed := true, recurses := true, named := ["math/bits.deBruijn32tab"], apart := false, laid := [("math/bits.deBruijn32tab", laid_math_bits_deBruijn32tab)], narrowed := true }
def WholeHeldUptoSaid : Prop := wholeHeldUptoRow.holds Tryd.pinned (OpenSpec.upto wholeHeldSpec)

/-- 'girdlelaw18.JoinSame', WHERE WHAT IT READS IS OF BULK AT MOST 1048576: true; the input reads as it did. -/
def joinSameUptoRow : OpenClaim := { program := "ytgioppkggpfnoaadoor", sum := "21552458da01f62058ae1af6627829452c5d121ebb6073c8db6f48c91a0695b2", func := "girdle/girdlelaw18.JoinSame", spec := "joinSame", unfollowed := true, recurses := true, named := ["math/bits.deBruijn32tab"], apart := false, laid := [("math/bits.deBruijn32tab", laid_math_bits_deBruijn32tab)], narrowed := true }
def JoinSameUptoSaid : Prop := joinSameUptoRow.holds Tryd.pinned (OpenSpec.upto joinSameSpec)

/-- 'girdlelaw18.JoinShapes', WHERE WHAT IT READS IS OF BULK AT MOST 1048576: true; the input reads as it did. -/
def joinShapesUptoRow : OpenClaim := { program := "ytgioppkggpfnoaadoor", sum := "21552458da01f62058ae1af6627829452c5d121ebb6073c8db6f48c91a0695b2", func := "girdle/girdlelaw18.JoinShapes", spec := "joinShapes", unfollowed := true, recurses := true, named := ["math/bits.deBruijn32tab"], apart := false, laid := [("math/bits.deBruijn32tab", laid_math_bits_deBruijn32tab)], narrowed := true }
def JoinShapesUptoSaid : Prop := joinShapesUptoRow.holds Tryd.pinned (OpenSpec.upto joinShapesSpec)

/-- 'girdlelaw18.JoinBetween', WHERE WHAT IT READS IS OF BULK AT MOST 1048576: true; the input reads as it did. -/
def joinBetweenUptoRow : OpenClaim := { program := "ytgioppkggpfnoaadoor", sum := "21552458da01f62058ae1af6627829452c5d121ebb6073c8db6f48c91a0695b2", func := "girdle/girdlelaw18.JoinBetween", spec := "joinBetween", unfollowed := true, recurses := true, named := ["math/bits.deBruijn32tab"], apart := false, laid := [("math/bits.deBruijn32tab", laid_math_bits_deBruijn32tab)], narrowed := true }
def JoinBetweenUptoSaid : Prop := joinBetweenUptoRow.holds Tryd.pinned (OpenSpec.upto joinBetweenSpec)

/-- 'girdlelaw17.ReduceNorms', WHERE WHAT IT READS IS OF BULK AT MOST 1048576: true; the input reads as it did. -/
def reduceNormsUptoRow : OpenClaim := { program := "ytgioppkggpfnoaadoor", sum := "21552458da01f62058ae1af6627829452c5d121ebb6073c8db6f48c91a0695b2", func := "girdle/girdlelaw17.ReduceNorms", spec := "reduceNorms", unfollowed := true, recurses := true, named := ["math/bits.deBruijn32tab"], apart := false, laid := [("math/bits.deBruijn32tab", laid_math_bits_deBruijn32tab)], narrowed := true }
def ReduceNormsUptoSaid : Prop := reduceNormsUptoRow.holds Tryd.pinned (OpenSpec.upto reduceNormsSpec)

/-- 'girdlelaw17.ReduceBoxes', WHERE WHAT IT READS IS OF BULK AT MOST 1048576: true; the input reads as it did. -/
def reduceBoxesUptoRow : OpenClaim := { program := "ytgioppkggpfnoaadoor", sum := "21552458da01f62058ae1af6627829452c5d121ebb6073c8db6f48c91a0695b2", func := "girdle/girdlelaw17.ReduceBoxes", spec := "reduceBoxes", unfollowed := true, recurses := true, named := ["math/bits.deBruijn32tab"], apart := false, laid := [("math/bits.deBruijn32tab", laid_math_bits_deBruijn32tab)], narrowed := true }
def ReduceBoxesUptoSaid : Prop := reduceBoxesUptoRow.holds Tryd.pinned (OpenSpec.upto reduceBoxesSpec)

/-- 'girdletop.WholeReduced', WHERE WHAT IT READS IS OF BULK AT MOST 1048576: true; the input reads as it did. -/
def wholeReducedUptoRow : OpenClaim := { program := "ytgioppkggpfnoaadoor", sum := "21552458da01f62058ae1af6627829452c5d121ebb6073c8db6f48c91a0695b2", func := "girdle/girdletop.WholeReduced", spec := "wholeReduced", unfollowed := true, recurses := true, named := ["math/bits.deBruijn32tab"], apart := false, laid := [("math/bits.deBruijn32tab", laid_math_bits_deBruijn32tab)], narrowed := true }
def WholeReducedUptoSaid : Prop := wholeReducedUptoRow.holds Tryd.pinned (OpenSpec.upto wholeReducedSpec)

/-- 'girdletop.WholeSums', WHERE WHAT IT READS IS OF BULK AT MOST 1048576: true; the input reads as it did. -/
def wholeSumsUptoRow : OpenClaim := { program := "ytgioppkggpfnoaadoor", sum := "21552458da01f62058ae1af6627829452c5d121ebb6073c8db6f48c91a0695b2", func := "girdle/girdletop.WholeSums", spec := "wholeSums", inPlace := ["internal/bytealg.IndexByteString", "internal/bytealg.IndexString"], unfollowed := true, recurses := true, named := ["internal/bytealg.MaxLen", "unicode/utf8.first", "unicode/utf8.acceptRanges"], apart := false, laid := [("unicode/utf8.acceptRanges", laid_unicode_utf8_acceptRanges), ("unicode/utf8.first", laid_unicode_utf8_first)], narrowed := true }
def WholeSumsUptoSaid : Prop := wholeSumsUptoRow.holds Tryd.pinned (OpenSpec.upto wholeSumsSpec)

end Rows
end Go.Proofs.YtgioppkggpfnoaaDoor
