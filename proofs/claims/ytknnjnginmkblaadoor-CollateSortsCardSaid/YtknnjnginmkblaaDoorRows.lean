/-
  NARROWER THAN 'FOR EVERY INPUT', by the rows' own cells (each row's printed sentence says how): CollateKeys: laid · CollateCompares: laid · CollateOrders: laid · CollateStrengths: laid · CollateNumbers: laid · CollateMarks: laid · CollateLong: laid · CollateElements: laid · CollateInitials: laid · CollatePrefixes: laid · CollateSorts: laid.
  DERIVED. THE GIVEN ROWS OF THIS SEAT. 11 by the template 'for every input the law returns true; each argument reads behind the call as it read before'; 0 by the template 'total and deterministic' (their statements: YtknnjnginmkblaaDoorTotals.lean).
  GIVEN WITH THE SEED: the statements are not yours to turn. If you find one false, say at which input.
  Laid BY PROGRAM, IN A SANDBOX (cutbox-rows.mjs): the forced cells as the released guide's own fill.sh prints them over the translation ed90e112942000a3… (all of the seat's roots in one cut). By AI agents, Wed Nov 11 2026. No macro, syntax, notation, axiom, sorry.
-/
import Derived.Test.YtknnjnginmkblaaDoorChecked
import GoSem.PinnedTables
import GoSem.Claim
import GoSem.ClaimJoined
import GoSem.ClaimMapViews
import Derived.JoinedTies
import Derived.KernelRfl
namespace Go.Proofs.YtknnjnginmkblaaDoor
/- THE CELL 'sum', in the pinned program and in every row, IS THE sha256 OF THE DUMP (.gsa) THAT YtknnjnginmkblaaDoorProg.lean LOADS. Nothing in Lean hashes anything: it is a label: what it is worth is what the hold of that sum in a sandbox is worth. -/
noncomputable def Tryd.pinned : Pinned := { name := "ytknnjnginmkblaadoor", sum := "ed90e112942000a311cf05abe114272f7e2f5fc656e5f7081f22b0e2929dddc8", checked := Tryd.checked }
namespace Rows
def none {H : Type} : Left H := { results := [], args := [] }

/- WHAT THE LISTED PACKAGE-LEVEL VARIABLES READ AS WHEN THE CALL BEGINS. Each datum BY PROGRAM (the guide's laid-datum.mjs) off the statement by which the dump's own 'gosem.cut.vars' lays the variable. In a bare row this is a premise. The card (YtknnjnginmkblaaDoorCards.lean) ties it to the program's text. -/
def laid_unicode_utf8_acceptRanges {H : Type} : DataW H := .agg [.agg [.lit (.int .u8 128), .lit (.int .u8 191)], .agg [.lit (.int .u8 160), .lit (.int .u8 191)], .agg [.lit (.int .u8 128), .lit (.int .u8 159)], .agg [.lit (.int .u8 144), .lit (.int .u8 191)], .agg [.lit (.int .u8 128), .lit (.int .u8 143)], .agg [.lit (.int .u8 0), .lit (.int .u8 0)], .agg [.lit (.int .u8 0), .lit (.int .u8 0)], .agg [.lit (.int .u8 0), .lit (.int .u8 0)], .agg [.lit (.int .u8 0), .lit (.int .u8 0)], .agg [.lit (.int .u8 0), .lit (.int .u8 0)], .agg [.lit (.int .u8 0), .lit (.int .u8 0)], .agg [.lit (.int .u8 0), .lit (.int .u8 0)], .agg [.lit (.int .u8 0), .lit (.int .u8 0)], .agg [.lit (.int .u8 0), .lit (.int .u8 0)], .agg [.lit (.int .u8 0), .lit (.int .u8 0)], .agg [.lit (.int .u8 0), .lit (.int .u8 0)]]
/-- One of Go's own tables, pinned by name: the form's constant. -/
def laid_unicode_utf8_first : DataW Unit := Go.Pinned.utf8First

/-- 'obeluslaw06.CollateKeys': WHATEVER THE INPUT: true; the input reads as it did. -/
def collateKeysSpec : ChangeSpec := { name := "collateKeys", fn := fun _ => fun
  | [d1, d2] => { results := [.lit (.bool true)], args := [d1, d2] }
  | _ => none }
def collateKeysRow : OpenClaim := { program := "ytknnjnginmkblaadoor", sum := "ed90e112942000a311cf05abe114272f7e2f5fc656e5f7081f22b0e2929dddc8", func := "obelus/obeluslaw06.CollateKeys", spec := "collateKeys", inPlace := ["internal/bytealg.IndexByteString", "internal/bytealg.IndexString", "internal/bytealg.abigen_runtime_cmpstring"], unfollowed := true, recurses := true, named := ["unicode/utf8.first", "unicode/utf8.acceptRanges", "internal/bytealg.MaxLen"], apart := false, laid := [("unicode/utf8.acceptRanges", laid_unicode_utf8_acceptRanges), ("unicode/utf8.first", laid_unicode_utf8_first)] }
def CollateKeysSaid : Prop := collateKeysRow.holds Tryd.pinned (OpenSpec.ofChange collateKeysSpec)

/-- ITS FALSE NEIGHBOUR: 'it returns false'. Refute it at one input. -/
def collateKeysWrong : ChangeSpec := { name := "collateKeys", fn := fun _ => fun
  | [d1, d2] => { results := [.lit (.bool false)], args := [d1, d2] }
  | _ => none }
def CollateKeysWrongFalsely : Prop := collateKeysRow.holds Tryd.pinned (OpenSpec.ofChange collateKeysWrong)

/-- 'obeluslaw06.CollateCompares': WHATEVER THE INPUT: true; the input reads as it did. -/
def collateComparesSpec : ChangeSpec := { name := "collateCompares", fn := fun _ => fun
  | [d1, d2, d3] => { results := [.lit (.bool true)], args := [d1, d2, d3] }
  | _ => none }
def collateComparesRow : OpenClaim := { program := "ytknnjnginmkblaadoor", sum := "ed90e112942000a311cf05abe114272f7e2f5fc656e5f7081f22b0e2929dddc8", func := "obelus/obeluslaw06.CollateCompares", spec := "collateCompares", inPlace := ["internal/bytealg.IndexByteString", "internal/bytealg.IndexString", "internal/bytealg.abigen_runtime_cmpstring"], unfollowed := true, recurses := true, named := ["unicode/utf8.first", "unicode/utf8.acceptRanges", "internal/bytealg.MaxLen"], apart := false, laid := [("unicode/utf8.acceptRanges", laid_unicode_utf8_acceptRanges), ("unicode/utf8.first", laid_unicode_utf8_first)] }
def CollateComparesSaid : Prop := collateComparesRow.holds Tryd.pinned (OpenSpec.ofChange collateComparesSpec)

/-- ITS FALSE NEIGHBOUR: 'it returns false'. Refute it at one input. -/
def collateComparesWrong : ChangeSpec := { name := "collateCompares", fn := fun _ => fun
  | [d1, d2, d3] => { results := [.lit (.bool false)], args := [d1, d2, d3] }
  | _ => none }
def CollateComparesWrongFalsely : Prop := collateComparesRow.holds Tryd.pinned (OpenSpec.ofChange collateComparesWrong)

/-- 'obeluslaw06.CollateOrders': WHATEVER THE INPUT: true; the input reads as it did. -/
def collateOrdersSpec : ChangeSpec := { name := "collateOrders", fn := fun _ => fun
  | [d1, d2] => { results := [.lit (.bool true)], args := [d1, d2] }
  | _ => none }
def collateOrdersRow : OpenClaim := { program := "ytknnjnginmkblaadoor", sum := "ed90e112942000a311cf05abe114272f7e2f5fc656e5f7081f22b0e2929dddc8", func := "obelus/obeluslaw06.CollateOrders", spec := "collateOrders", inPlace := ["internal/bytealg.IndexByteString", "internal/bytealg.IndexString", "internal/bytealg.abigen_runtime_cmpstring"], unfollowed := true, recurses := true, named := ["unicode/utf8.first", "unicode/utf8.acceptRanges", "internal/bytealg.MaxLen"], apart := false, laid := [("unicode/utf8.acceptRanges", laid_unicode_utf8_acceptRanges), ("unicode/utf8.first", laid_unicode_utf8_first)] }
def CollateOrdersSaid : Prop := collateOrdersRow.holds Tryd.pinned (OpenSpec.ofChange collateOrdersSpec)

/-- ITS FALSE NEIGHBOUR: 'it returns false'. Refute it at one input. -/
def collateOrdersWrong : ChangeSpec := { name := "collateOrders", fn := fun _ => fun
  | [d1, d2] => { results := [.lit (.bool false)], args := [d1, d2] }
  | _ => none }
def CollateOrdersWrongFalsely : Prop := collateOrdersRow.holds Tryd.pinned (OpenSpec.ofChange collateOrdersWrong)

/-- 'obeluslaw06.CollateStrengths': WHATEVER THE INPUT: true; the input reads as it did. -/
def collateStrengthsSpec : ChangeSpec := { name := "collateStrengths", fn := fun _ => fun
  | [d1, d2, d3] => { results := [.lit (.bool true)], args := [d1, d2, d3] }
  | _ => none }
def collateStrengthsRow : OpenClaim := { program := "ytknnjnginmkblaadoor", sum := "ed90e112942000a311cf05abe114272f7e2f5fc656e5f7081f22b0e2929dddc8", func := "obelus/obeluslaw06.CollateStrengths", spec := "collateStrengths", inPlace := ["internal/bytealg.IndexByteString", "internal/bytealg.IndexString", "internal/bytealg.abigen_runtime_cmpstring"], unfollowed := true, recurses := true, named := ["unicode/utf8.first", "unicode/utf8.acceptRanges", "internal/bytealg.MaxLen"], apart := false, laid := [("unicode/utf8.acceptRanges", laid_unicode_utf8_acceptRanges), ("unicode/utf8.first", laid_unicode_utf8_first)] }
def CollateStrengthsSaid : Prop := collateStrengthsRow.holds Tryd.pinned (OpenSpec.ofChange collateStrengthsSpec)

/-- ITS FALSE NEIGHBOUR: 'it returns false'. Refute it at one input. -/
def collateStrengthsWrong : ChangeSpec := { name := "collateStrengths", fn := fun _ => fun
  | [d1, d2, d3] => { results := [.lit (.bool false)], args := [d1, d2, d3] }
  | _ => none }
def CollateStrengthsWrongFalsely : Prop := collateStrengthsRow.holds Tryd.pinned (OpenSpec.ofChange collateStrengthsWrong)

/-- 'obeluslaw06.CollateNumbers': WHATEVER THE INPUT: true; the input reads as it did. -/
def collateNumbersSpec : ChangeSpec := { name := "collateNumbers", fn := fun _ => fun
  | [d1, d2, d3] => { results := [.lit (.bool true)], args := [d1, d2, d3] }
  | _ => none }
def collateNumbersRow : OpenClaim := { program := "ytknnjnginmkblaadoor", sum := "ed90e112942000a311cf05abe114272f7e2f5fc656e5f7081f22b0e2929dddc8", func := "obelus/obeluslaw06.CollateNumbers", spec := "collateNumbers", inPlace := ["internal/bytealg.IndexByteString", "internal/bytealg.IndexString", "internal/bytealg.abigen_runtime_cmpstring"], unfollowed := true, recurses := true, named := ["unicode/utf8.first", "unicode/utf8.acceptRanges", "internal/bytealg.MaxLen"], apart := false, laid := [("unicode/utf8.acceptRanges", laid_unicode_utf8_acceptRanges), ("unicode/utf8.first", laid_unicode_utf8_first)] }
def CollateNumbersSaid : Prop := collateNumbersRow.holds Tryd.pinned (OpenSpec.ofChange collateNumbersSpec)

/-- ITS FALSE NEIGHBOUR: 'it returns false'. Refute it at one input. -/
def collateNumbersWrong : ChangeSpec := { name := "collateNumbers", fn := fun _ => fun
  | [d1, d2, d3] => { results := [.lit (.bool false)], args := [d1, d2, d3] }
  | _ => none }
def CollateNumbersWrongFalsely : Prop := collateNumbersRow.holds Tryd.pinned (OpenSpec.ofChange collateNumbersWrong)

/-- 'obeluslaw06.CollateMarks': WHATEVER THE INPUT: true; the input reads as it did. -/
def collateMarksSpec : ChangeSpec := { name := "collateMarks", fn := fun _ => fun
  | [d1, d2, d3] => { results := [.lit (.bool true)], args := [d1, d2, d3] }
  | _ => none }
def collateMarksRow : OpenClaim := { program := "ytknnjnginmkblaadoor", sum := "ed90e112942000a311cf05abe114272f7e2f5fc656e5f7081f22b0e2929dddc8", func := "obelus/obeluslaw06.CollateMarks", spec := "collateMarks", inPlace := ["internal/bytealg.IndexByteString", "internal/bytealg.IndexString", "internal/bytealg.abigen_runtime_cmpstring"], unfollowed := true, recurses := true, named := ["unicode/utf8.first", "unicode/utf8.acceptRanges", "internal/bytealg.MaxLen"], apart := false, laid := [("unicode/utf8.acceptRanges", laid_unicode_utf8_acceptRanges), ("unicode/utf8.first", laid_unicode_utf8_first)] }
def CollateMarksSaid : Prop := collateMarksRow.holds Tryd.pinned (OpenSpec.ofChange collateMarksSpec)

/-- ITS FALSE NEIGHBOUR: 'it returns false'. Refute it at one input. -/
def collateMarksWrong : ChangeSpec := { name := "collateMarks", fn := fun _ => fun
  | [d1, d2, d3] => { results := [.lit (.bool false)], args := [d1, d2, d3] }
  | _ => none }
def CollateMarksWrongFalsely : Prop := collateMarksRow.holds Tryd.pinned (OpenSpec.ofChange collateMarksWrong)

/-- 'obeluslaw06.CollateLong': WHATEVER THE INPUT: true; the input reads as it did. -/
def collateLongSpec : ChangeSpec := { name := "collateLong", fn := fun _ => fun
  | [d1, d2] => { results := [.lit (.bool true)], args := [d1, d2] }
  | _ => none }
def collateLongRow : OpenClaim := { program := "ytknnjnginmkblaadoor", sum := "ed90e112942000a311cf05abe114272f7e2f5fc656e5f7081f22b0e2929dddc8", func := "obelus/obeluslaw06.CollateLong", spec := "collateLong", inPlace := ["internal/bytealg.IndexByteString", "internal/bytealg.IndexString", "internal/bytealg.abigen_runtime_cmpstring"], unfollowed := true, recurses := true, named := ["unicode/utf8.first", "unicode/utf8.acceptRanges", "internal/bytealg.MaxLen"], apart := false, laid := [("unicode/utf8.acceptRanges", laid_unicode_utf8_acceptRanges), ("unicode/utf8.first", laid_unicode_utf8_first)] }
def CollateLongSaid : Prop := collateLongRow.holds Tryd.pinned (OpenSpec.ofChange collateLongSpec)

/-- ITS FALSE NEIGHBOUR: 'it returns false'. Refute it at one input. -/
def collateLongWrong : ChangeSpec := { name := "collateLong", fn := fun _ => fun
  | [d1, d2] => { results := [.lit (.bool false)], args := [d1, d2] }
  | _ => none }
def CollateLongWrongFalsely : Prop := collateLongRow.holds Tryd.pinned (OpenSpec.ofChange collateLongWrong)

/-- 'obeluslaw06.CollateElements': WHATEVER THE INPUT: true; the input reads as it did. -/
def collateElementsSpec : ChangeSpec := { name := "collateElements", fn := fun _ => fun
  | [d1, d2] => { results := [.lit (.bool true)], args := [d1, d2] }
  | _ => none }
def collateElementsRow : OpenClaim := { program := "ytknnjnginmkblaadoor", sum := "ed90e112942000a311cf05abe114272f7e2f5fc656e5f7081f22b0e2929dddc8", func := "obelus/obeluslaw06.CollateElements", spec := "collateElements", inPlace := ["internal/bytealg.IndexByteString", "internal/bytealg.IndexString", "internal/bytealg.abigen_runtime_cmpstring"], unfollowed := true, recurses := true, named := ["unicode/utf8.first", "unicode/utf8.acceptRanges", "internal/bytealg.MaxLen"], apart := false, laid := [("unicode/utf8.acceptRanges", laid_unicode_utf8_acceptRanges), ("unicode/utf8.first", laid_unicode_utf8_first)] }
def CollateElementsSaid : Prop := collateElementsRow.holds Tryd.pinned (OpenSpec.ofChange collateElementsSpec)

/-- ITS FALSE NEIGHBOUR: 'it returns false'. Refute it at one input. -/
def collateElementsWrong : ChangeSpec := { name := "collateElements", fn := fun _ => fun
  | [d1, d2] => { results := [.lit (.bool false)], args := [d1, d2] }
  | _ => none }
def CollateElementsWrongFalsely : Prop := collateElementsRow.holds Tryd.pinned (OpenSpec.ofChange collateElementsWrong)

/-- 'obeluslaw06.CollateInitials': WHATEVER THE INPUT: true; the input reads as it did. -/
def collateInitialsSpec : ChangeSpec := { name := "collateInitials", fn := fun _ => fun
  | [d1, d2] => { results := [.lit (.bool true)], args := [d1, d2] }
  | _ => none }
def collateInitialsRow : OpenClaim := { program := "ytknnjnginmkblaadoor", sum := "ed90e112942000a311cf05abe114272f7e2f5fc656e5f7081f22b0e2929dddc8", func := "obelus/obeluslaw06.CollateInitials", spec := "collateInitials", inPlace := ["internal/bytealg.IndexByteString", "internal/bytealg.IndexString", "internal/bytealg.abigen_runtime_cmpstring"], unfollowed := true, recurses := true, named := ["unicode/utf8.first", "unicode/utf8.acceptRanges", "internal/bytealg.MaxLen"], apart := false, laid := [("unicode/utf8.acceptRanges", laid_unicode_utf8_acceptRanges), ("unicode/utf8.first", laid_unicode_utf8_first)] }
def CollateInitialsSaid : Prop := collateInitialsRow.holds Tryd.pinned (OpenSpec.ofChange collateInitialsSpec)

/-- ITS FALSE NEIGHBOUR: 'it returns false'. Refute it at one input. -/
def collateInitialsWrong : ChangeSpec := { name := "collateInitials", fn := fun _ => fun
  | [d1, d2] => { results := [.lit (.bool false)], args := [d1, d2] }
  | _ => none }
def CollateInitialsWrongFalsely : Prop := collateInitialsRow.holds Tryd.pinned (OpenSpec.ofChange collateInitialsWrong)

/-- 'obeluslaw06.CollatePrefixes': WHATEVER THE INPUT: true; the input reads as it did. -/
def collatePrefixesSpec : ChangeSpec := { name := "collatePrefixes", fn := fun _ => fun
  | [d1, d2, d3] => { results := [.lit (.bool true)], args := [d1, d2, d3] }
  | _ => none }
def collatePrefixesRow : OpenClaim := { program := "ytknnjnginmkblaadoor", sum := "ed90e112942000a311cf05abe114272f7e2f5fc656e5f7081f22b0e2929dddc8", func := "obelus/obeluslaw06.CollatePrefixes", spec := "collatePrefixes", inPlace := ["internal/bytealg.IndexByteString", "internal/bytealg.IndexString", "internal/bytealg.abigen_runtime_cmpstring"], unfollowed := true, recurses := true, named := ["unicode/utf8.first", "unicode/utf8.acceptRanges", "internal/bytealg.MaxLen"], apart := false, laid := [("unicode/utf8.acceptRanges", laid_unicode_utf8_acceptRanges), ("unicode/utf8.first", laid_unicode_utf8_first)] }
def CollatePrefixesSaid : Prop := collatePrefixesRow.holds Tryd.pinned (OpenSpec.ofChange collatePrefixesSpec)

/-- ITS FALSE NEIGHBOUR: 'it returns false'. Refute it at one input. -/
def collatePrefixesWrong : ChangeSpec := { name := "collatePrefixes", fn := fun _ => fun
  | [d1, d2, d3] => { results := [.lit (.bool false)], args := [d1, d2, d3] }
  | _ => none }
def CollatePrefixesWrongFalsely : Prop := collatePrefixesRow.holds Tryd.pinned (OpenSpec.ofChange collatePrefixesWrong)

/-- 'obeluslaw06.CollateSorts': WHATEVER THE INPUT: true; the input reads as it did. -/
def collateSortsSpec : ChangeSpec := { name := "collateSorts", fn := fun _ => fun
  | [d1, d2] => { results := [.lit (.bool true)], args := [d1, d2] }
  | _ => none }
def collateSortsRow : OpenClaim := { program := "ytknnjnginmkblaadoor", sum := "ed90e112942000a311cf05abe114272f7e2f5fc656e5f7081f22b0e2929dddc8", func := "obelus/obeluslaw06.CollateSorts", spec := "collateSorts", inPlace := ["internal/bytealg.IndexByteString", "internal/bytealg.IndexString", "internal/bytealg.abigen_runtime_cmpstring"], unfollowed := true, recurses := true, named := ["unicode/utf8.first", "unicode/utf8.acceptRanges", "internal/bytealg.MaxLen"], apart := false, laid := [("unicode/utf8.acceptRanges", laid_unicode_utf8_acceptRanges), ("unicode/utf8.first", laid_unicode_utf8_first)] }
def CollateSortsSaid : Prop := collateSortsRow.holds Tryd.pinned (OpenSpec.ofChange collateSortsSpec)

/-- ITS FALSE NEIGHBOUR: 'it returns false'. Refute it at one input. -/
def collateSortsWrong : ChangeSpec := { name := "collateSorts", fn := fun _ => fun
  | [d1, d2] => { results := [.lit (.bool false)], args := [d1, d2] }
  | _ => none }
def CollateSortsWrongFalsely : Prop := collateSortsRow.holds Tryd.pinned (OpenSpec.ofChange collateSortsWrong)

/- THE SECOND FORM. 'bulk': how many values and letters a reading holds, each counted each time it is reached (what is shared counts as often as it is met; a slice's spare places count too). A statement '..UptoSaid' is the law's where the arguments, and the package variables that the reading takes, are together of bulk at most 1048576: NARROWER than '..Said'. Prove '..Said' where nothing that the law and all that it calls make is longer than what came in: it says more and counts as full. Else prove '..UptoSaid'. A law counts once. -/
mutual
def uptoBulk {H : Type} : DataW H → Nat
  | .lit (.string bytes) => bytes.length + 1
  | .lit _ => 1
  | .nil => 1
  | .ptr d => uptoBulk d + 1
  | .slice elems spare => uptoBulkAll elems + uptoBulkAll spare + 1
  | .agg parts => uptoBulkAll parts + 1
  | .iface _ d => uptoBulk d + 1
  | .map entries => uptoBulkEntries entries + 1
  | .held _ => 1
def uptoBulkAll {H : Type} : List (DataW H) → Nat
  | [] => 0
  | d :: r => uptoBulk d + uptoBulkAll r
def uptoBulkEntries {H : Type} : List (Lit × DataW H) → Nat
  | [] => 0
  | x :: r => uptoBulkEntry x + uptoBulkEntries r
def uptoBulkEntry {H : Type} : Lit × DataW H → Nat
  | (.string bytes, d) => bytes.length + uptoBulk d + 1
  | (_, d) => uptoBulk d + 1
 end
def uptoSmall : (H : Type) → List (DataW H) → Bool := fun _ ds => decide (uptoBulkAll ds ≤ 1048576)
def OpenSpec.upto (s : _root_.Go.ChangeSpec) : _root_.Go.OpenSpec := { _root_.Go.OpenSpec.ofChange s with cond := some uptoSmall }

/-- 'obeluslaw06.CollateKeys', WHERE WHAT IT READS IS OF BULK AT MOST 1048576: true; the input reads as it did. -/
def collateKeysUptoRow : OpenClaim := { program := "ytknnjnginmkblaadoor", sum := "ed90e112942000a311cf05abe114272f7e2f5fc656e5f7081f22b0e2929dddc8", func := "obelus/obeluslaw06.CollateKeys", spec := "collateKeys", inPlace := ["internal/bytealg.IndexByteString", "internal/bytealg.IndexString", "internal/bytealg.abigen_runtime_cmpstring"], unfollowed := true, recurses := true, named := ["unicode/utf8.first", "unicode/utf8.acceptRanges", "internal/bytealg.MaxLen"], apart := false, laid := [("unicode/utf8.acceptRanges", laid_unicode_utf8_acceptRanges), ("unicode/utf8.first", laid_unicode_utf8_first)], narrowed := true }
def CollateKeysUptoSaid : Prop := collateKeysUptoRow.holds Tryd.pinned (OpenSpec.upto collateKeysSpec)

/-- 'obeluslaw06.CollateCompares', WHERE WHAT IT READS IS OF BULK AT MOST 1048576: true; the input reads as it did. -/
def collateComparesUptoRow : OpenClaim := { program := "ytknnjnginmkblaadoor", sum := "ed90e112942000a311cf05abe114272f7e2f5fc656e5f7081f22b0e2929dddc8", func := "obelus/obeluslaw06.CollateCompares", spec := "collateCompares", inPlace := ["internal/bytealg.IndexByteString", "internal/bytealg.IndexString", "internal/bytealg.abigen_runtime_cmpstring"], unfollowed := true, recurses := true, named := ["unicode/utf8.first", "unicode/utf8.acceptRanges", "internal/bytealg.MaxLen"], apart := false, laid := [("unicode/utf8.acceptRanges", laid_unicode_utf8_acceptRanges), ("unicode/utf8.first", laid_unicode_utf8_first)], narrowed := true }
def CollateComparesUptoSaid : Prop := collateComparesUptoRow.holds Tryd.pinned (OpenSpec.upto collateComparesSpec)

/-- 'obeluslaw06.CollateOrders', WHERE WHAT IT READS IS OF BULK AT MOST 1048576: true; the input reads as it did. -/
def collateOrdersUptoRow : OpenClaim := { program := "ytknnjnginmkblaadoor", sum := "ed90e112942000a311cf05abe114272f7e2f5fc656e5f7081f22b0e2929dddc8", func := "obelus/obeluslaw06.CollateOrders", spec := "collateOrders", inPlace := ["internal/bytealg.IndexByteString", "internal/bytealg.IndexString", "internal/bytealg.abigen_runtime_cmpstring"], unfollowed := true, recurses := true, named := ["unicode/utf8.first", "unicode/utf8.acceptRanges", "internal/bytealg.MaxLen"], apart := false, laid := [("unicode/utf8.acceptRanges", laid_unicode_utf8_acceptRanges), ("unicode/utf8.first", laid_unicode_utf8_first)], narrowed := true }
def CollateOrdersUptoSaid : Prop := collateOrdersUptoRow.holds Tryd.pinned (OpenSpec.upto collateOrdersSpec)

/-- 'obeluslaw06.CollateStrengths', WHERE WHAT IT READS IS OF BULK AT MOST 1048576: true; the input reads as it did. -/
def collateStrengthsUptoRow : OpenClaim := { program := "ytknnjnginmkblaadoor", sum := "ed90e112942000a311cf05abe114272f7e2f5fc656e5f7081f22b0e2929dddc8", func := "obelus/obeluslaw06.CollateStrengths", spec := "collateStrengths", inPlace := ["internal/bytealg.IndexByteString", "internal/bytealg.IndexString", "internal/bytealg.abigen_runtime_cmpstring"], unfollowed := true, recurses := true, named := ["unicode/utf8.first", "unicode/utf8.acceptRanges", "internal/bytealg.MaxLen"], apart := false, laid := [("unicode/utf8.acceptRanges", laid_unicode_utf8_acceptRanges), ("unicode/utf8.first", laid_unicode_utf8_first)], narrowed := true }
def CollateStrengthsUptoSaid : Prop := collateStrengthsUptoRow.holds Tryd.pinned (OpenSpec.upto collateStrengthsSpec)

/-- 'obeluslaw06.CollateNumbers', WHERE WHAT IT READS IS OF BULK AT MOST 1048576: true; the input reads as it did. -/
def collateNumbersUptoRow : OpenClaim := { program := "ytknnjnginmkblaadoor", sum := "ed90e112942000a311cf05abe114272f7e2f5fc656e5f7081f22b0e2929dddc8", func := "obelus/obeluslaw06.CollateNumbers", spec := "collateNumbers", inPlace := ["internal/bytealg.IndexByteString", "internal/bytealg.IndexString", "internal/bytealg.abigen_runtime_cmpstring"], unfollowed := true, recurses := true, named := ["unicode/utf8.first", "unicode/utf8.acceptRanges", "internal/bytealg.MaxLen"], apart := false, laid := [("unicode/utf8.acceptRanges", laid_unicode_utf8_acceptRanges), ("unicode/utf8.first", laid_unicode_utf8_first)], narrowed := true }
def CollateNumbersUptoSaid : Prop := collateNumbersUptoRow.holds Tryd.pinned (OpenSpec.upto collateNumbersSpec)

/-- 'obeluslaw06.CollateMarks', WHERE WHAT IT READS IS OF BULK AT MOST 1048576: true; the input reads as it did. -/
def collateMarksUptoRow : OpenClaim := { program := "ytknnjnginmkblaadoor", sum := "ed90e112942000a311cf05abe114272f7e2f5fc656e5f7081f22b0e2929dddc8", func := "obelus/obeluslaw06.CollateMarks", spec := "collateMarks", inPlace := ["internal/bytealg.IndexByteString", "internal/bytealg.IndexString", "internal/bytealg.abigen_runtime_cmpstring"], unfollowed := true, recurses := true, named := ["unicode/utf8.first", "unicode/utf8.acceptRanges", "internal/bytealg.MaxLen"], apart := false, laid := [("unicode/utf8.acceptRanges", laid_unicode_utf8_acceptRanges), ("unicode/utf8.first", laid_unicode_utf8_first)], narrowed := true }
def CollateMarksUptoSaid : Prop := collateMarksUptoRow.holds Tryd.pinned (OpenSpec.upto collateMarksSpec)

/-- 'obeluslaw06.CollateLong', WHERE WHAT IT READS IS OF BULK AT MOST 1048576: true; the input reads as it did. -/
def collateLongUptoRow : OpenClaim := { program := "ytknnjnginmkblaadoor", sum := "ed90e112942000a311cf05abe114272f7e2f5fc656e5f7081f22b0e2929dddc8", func := "obelus/obeluslaw06.CollateLong", spec := "collateLong", inPlace := ["internal/bytealg.IndexByteString", "internal/bytealg.IndexString", "internal/bytealg.abigen_runtime_cmpstring"], unfollowed := true, recurses := true, named := ["unicode/utf8.first", "unicode/utf8.acceptRanges", "internal/bytealg.MaxLen"], apart := false, laid := [("unicode/utf8.acceptRanges", laid_unicode_utf8_acceptRanges), ("unicode/utf8.first", laid_unicode_utf8_first)], narrowed := true }
def CollateLongUptoSaid : Prop := collateLongUptoRow.holds Tryd.pinned (OpenSpec.upto collateLongSpec)

/-- 'obeluslaw06.CollateElements', WHERE WHAT IT READS IS OF BULK AT MOST 1048576: true; the input reads as it did. -/
def collateElementsUptoRow : OpenClaim := { program := "ytknnjnginmkblaadoor", sum := "ed90e112942000a311cf05abe114272f7e2f5fc656e5f7081f22b0e2929dddc8", func := "obelus/obeluslaw06.CollateElements", spec := "collateElements", inPlace := ["internal/bytealg.IndexByteString", "internal/bytealg.IndexString", "internal/bytealg.abigen_runtime_cmpstring"], unfollowed := true, recurses := true, named := ["unicode/utf8.first", "unicode/utf8.acceptRanges", "internal/bytealg.MaxLen"], apart := false, laid := [("unicode/utf8.acceptRanges", laid_unicode_utf8_acceptRanges), ("unicode/utf8.first", laid_unicode_utf8_first)], narrowed := true }
def CollateElementsUptoSaid : Prop := collateElementsUptoRow.holds Tryd.pinned (OpenSpec.upto collateElementsSpec)

/-- 'obeluslaw06.CollateInitials', WHERE WHAT IT READS IS OF BULK AT MOST 1048576: true; the input reads as it did. -/
def collateInitialsUptoRow : OpenClaim := { program := "ytknnjnginmkblaadoor", sum := "ed90e112942000a311cf05abe114272f7e2f5fc656e5f7081f22b0e2929dddc8", func := "obelus/obeluslaw06.CollateInitials", spec := "collateInitials", inPlace := ["internal/bytealg.IndexByteString", "internal/bytealg.IndexString", "internal/bytealg.abigen_runtime_cmpstring"], unfollowed := true, recurses := true, named := ["unicode/utf8.first", "unicode/utf8.acceptRanges", "internal/bytealg.MaxLen"], apart := false, laid := [("unicode/utf8.acceptRanges", laid_unicode_utf8_acceptRanges), ("unicode/utf8.first", laid_unicode_utf8_first)], narrowed := true }
def CollateInitialsUptoSaid : Prop := collateInitialsUptoRow.holds Tryd.pinned (OpenSpec.upto collateInitialsSpec)

/-- 'obeluslaw06.CollatePrefixes', WHERE WHAT IT READS IS OF BULK AT MOST 1048576: true; the input reads as it did. -/
def collatePrefixesUptoRow : OpenClaim := { program := "ytknnjnginmkblaadoor", sum := "ed90e112942000a311cf05abe114272f7e2f5fc656e5f7081f22b0e2929dddc8", func := "obelus/obeluslaw06.CollatePrefixes", spec := "collatePrefixes", inPlace := ["internal/bytealg.IndexByteString", "internal/bytealg.IndexString", "internal/bytealg.abigen_runtime_cmpstring"], unfollowed := true, recurses := true, named := ["unicode/utf8.first", "unicode/utf8.acceptRanges", "internal/bytealg.MaxLen"], apart := false, laid := [("unicode/utf8.acceptRanges", laid_unicode_utf8_acceptRanges), ("unicode/utf8.first", laid_unicode_utf8_first)], narrowed := true }
def CollatePrefixesUptoSaid : Prop := collatePrefixesUptoRow.holds Tryd.pinned (OpenSpec.upto collatePrefixesSpec)

/-- 'obeluslaw06.CollateSorts', WHERE WHAT IT READS IS OF BULK AT MOST 1048576: true; the input reads as it did. -/
def collateSortsUptoRow : OpenClaim := { program := "ytknnjnginmkblaadoor", sum := "ed90e112942000a311cf05abe114272f7e2f5fc656e5f7081f22b0e2929dddc8", func := "obelus/obeluslaw06.CollateSorts", spec := "collateSorts", inPlace := ["internal/bytealg.IndexByteString", "internal/bytealg.IndexString", "internal/bytealg.abigen_runtime_cmpstring"], unfollowed := true, recurses := true, named := ["unicode/utf8.first", "unicode/utf8.acceptRanges", "internal/bytealg.MaxLen"], apart := false, laid := [("unicode/utf8.acceptRanges", laid_unicode_utf8_acceptRanges), ("unicode/utf8.first", laid_unicode_utf8_first)], narrowed := true }
def CollateSortsUptoSaid : Prop := collateSortsUptoRow.holds Tryd.pinned (OpenSpec.upto collateSortsSpec)

end Rows
end Go.Proofs.YtknnjnginmkblaaDoor
