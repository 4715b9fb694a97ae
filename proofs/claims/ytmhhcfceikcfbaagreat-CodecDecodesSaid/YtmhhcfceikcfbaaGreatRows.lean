/-
  NARROWER THAN 'FOR EVERY INPUT', by the rows' own cells (each row's printed sentence says how): CodecDiffers: loops · CodecItems: loops · CodecEdits: loops · CodecSplices: loops · CodecCuts: loops · CodecDocuments: loops.
  DERIVED. THE GIVEN ROWS OF THIS SEAT. 10 by the template 'for every input the law returns true; each argument reads behind the call as it read before'; 0 by the template 'total and deterministic' (their statements: YtmhhcfceikcfbaaGreatTotals.lean).
  GIVEN WITH THE SEED: the statements are not yours to turn. If you find one false, say at which input.
  Laid BY PROGRAM, IN A SANDBOX (cutbox-rows.mjs): the forced cells as the released guide's own fill.sh prints them over the translation db6d42a8ca6fc9e4… (all of the seat's roots in one cut). By AI agents, Wed Nov 11 2026. No macro, syntax, notation, axiom, sorry.
-/
import Derived.Test.YtmhhcfceikcfbaaGreatChecked
import GoSem.Claim
import GoSem.ClaimJoined
import GoSem.ClaimMapViews
import Derived.JoinedTies
import Derived.KernelRfl
namespace Go.Proofs.YtmhhcfceikcfbaaGreat
/- THE CELL 'sum', in the pinned program and in every row, IS THE sha256 OF THE DUMP (.gsa) THAT YtmhhcfceikcfbaaGreatProg.lean LOADS. Nothing in Lean hashes anything: it is a label: what it is worth is what the hold of that sum in a sandbox is worth. -/
noncomputable def Tryz.pinned : Pinned := { name := "ytmhhcfceikcfbaagreat", sum := "db6d42a8ca6fc9e42efa5fe16f93f17e6442ff6cd86f2216e29fc528c2cf086d", checked := Tryz.checked }
namespace Rows
def none {H : Type} : Left H := { results := [], args := [] }

/-- 'obeluslaw51.CodecNumbers': WHATEVER THE INPUT: true; the input reads as it did. -/
def codecNumbersSpec : ChangeSpec := { name := "codecNumbers", fn := fun _ => fun
  | [d1, d2, d3] => { results := [.lit (.bool true)], args := [d1, d2, d3] }
  | _ => none }
def codecNumbersRow : OpenClaim := { program := "ytmhhcfceikcfbaagreat", sum := "db6d42a8ca6fc9e42efa5fe16f93f17e6442ff6cd86f2216e29fc528c2cf086d", func := "obelus/obeluslaw51.CodecNumbers", spec := "codecNumbers", inPlace := ["internal/abi.NoEscape"], unfollowed := true, recurses := true, apart := false }
def CodecNumbersSaid : Prop := codecNumbersRow.holds Tryz.pinned (OpenSpec.ofChange codecNumbersSpec)

/-- ITS FALSE NEIGHBOUR: 'it returns false'. Refute it at one input. -/
def codecNumbersWrong : ChangeSpec := { name := "codecNumbers", fn := fun _ => fun
  | [d1, d2, d3] => { results := [.lit (.bool false)], args := [d1, d2, d3] }
  | _ => none }
def CodecNumbersWrongFalsely : Prop := codecNumbersRow.holds Tryz.pinned (OpenSpec.ofChange codecNumbersWrong)

/-- 'obeluslaw51.CodecReads': WHATEVER THE INPUT: true; the input reads as it did. -/
def codecReadsSpec : ChangeSpec := { name := "codecReads", fn := fun _ => fun
  | [d1, d2] => { results := [.lit (.bool true)], args := [d1, d2] }
  | _ => none }
def codecReadsRow : OpenClaim := { program := "ytmhhcfceikcfbaagreat", sum := "db6d42a8ca6fc9e42efa5fe16f93f17e6442ff6cd86f2216e29fc528c2cf086d", func := "obelus/obeluslaw51.CodecReads", spec := "codecReads", inPlace := ["internal/abi.NoEscape"], unfollowed := true, recurses := true, apart := false }
def CodecReadsSaid : Prop := codecReadsRow.holds Tryz.pinned (OpenSpec.ofChange codecReadsSpec)

/-- ITS FALSE NEIGHBOUR: 'it returns false'. Refute it at one input. -/
def codecReadsWrong : ChangeSpec := { name := "codecReads", fn := fun _ => fun
  | [d1, d2] => { results := [.lit (.bool false)], args := [d1, d2] }
  | _ => none }
def CodecReadsWrongFalsely : Prop := codecReadsRow.holds Tryz.pinned (OpenSpec.ofChange codecReadsWrong)

/-- 'obeluslaw51.CodecDiffers': WHATEVER THE INPUT: true; the input reads as it did. -/
def codecDiffersSpec : ChangeSpec := { name := "codecDiffers", fn := fun _ => fun
  | [d1, d2] => { results := [.lit (.bool true)], args := [d1, d2] }
  | _ => none }
def codecDiffersRow : OpenClaim := { program := "ytmhhcfceikcfbaagreat", sum := "db6d42a8ca6fc9e42efa5fe16f93f17e6442ff6cd86f2216e29fc528c2cf086d", func := "obelus/obeluslaw51.CodecDiffers", spec := "codecDiffers", inPlace := ["internal/abi.NoEscape"], unfollowed := true, recurses := true, loops := true, apart := false }
def CodecDiffersSaid : Prop := codecDiffersRow.holds Tryz.pinned (OpenSpec.ofChange codecDiffersSpec)

/-- ITS FALSE NEIGHBOUR: 'it returns false'. Refute it at one input. -/
def codecDiffersWrong : ChangeSpec := { name := "codecDiffers", fn := fun _ => fun
  | [d1, d2] => { results := [.lit (.bool false)], args := [d1, d2] }
  | _ => none }
def CodecDiffersWrongFalsely : Prop := codecDiffersRow.holds Tryz.pinned (OpenSpec.ofChange codecDiffersWrong)

/-- 'obeluslaw51.CodecItems': WHATEVER THE INPUT: true; the input reads as it did. -/
def codecItemsSpec : ChangeSpec := { name := "codecItems", fn := fun _ => fun
  | [d1, d2] => { results := [.lit (.bool true)], args := [d1, d2] }
  | _ => none }
def codecItemsRow : OpenClaim := { program := "ytmhhcfceikcfbaagreat", sum := "db6d42a8ca6fc9e42efa5fe16f93f17e6442ff6cd86f2216e29fc528c2cf086d", func := "obelus/obeluslaw51.CodecItems", spec := "codecItems", inPlace := ["internal/abi.NoEscape"], unfollowed := true, recurses := true, loops := true, apart := false }
def CodecItemsSaid : Prop := codecItemsRow.holds Tryz.pinned (OpenSpec.ofChange codecItemsSpec)

/-- ITS FALSE NEIGHBOUR: 'it returns false'. Refute it at one input. -/
def codecItemsWrong : ChangeSpec := { name := "codecItems", fn := fun _ => fun
  | [d1, d2] => { results := [.lit (.bool false)], args := [d1, d2] }
  | _ => none }
def CodecItemsWrongFalsely : Prop := codecItemsRow.holds Tryz.pinned (OpenSpec.ofChange codecItemsWrong)

/-- 'obeluslaw51.CodecEdits': WHATEVER THE INPUT: true; the input reads as it did. -/
def codecEditsSpec : ChangeSpec := { name := "codecEdits", fn := fun _ => fun
  | [d] => { results := [.lit (.bool true)], args := [d] }
  | _ => none }
def codecEditsRow : OpenClaim := { program := "ytmhhcfceikcfbaagreat", sum := "db6d42a8ca6fc9e42efa5fe16f93f17e6442ff6cd86f2216e29fc528c2cf086d", func := "obelus/obeluslaw51.CodecEdits", spec := "codecEdits", inPlace := ["internal/abi.NoEscape"], unfollowed := true, recurses := true, loops := true, apart := false }
def CodecEditsSaid : Prop := codecEditsRow.holds Tryz.pinned (OpenSpec.ofChange codecEditsSpec)

/-- ITS FALSE NEIGHBOUR: 'it returns false'. Refute it at one input. -/
def codecEditsWrong : ChangeSpec := { name := "codecEdits", fn := fun _ => fun
  | [d] => { results := [.lit (.bool false)], args := [d] }
  | _ => none }
def CodecEditsWrongFalsely : Prop := codecEditsRow.holds Tryz.pinned (OpenSpec.ofChange codecEditsWrong)

/-- 'obeluslaw51.CodecSplices': WHATEVER THE INPUT: true; the input reads as it did. -/
def codecSplicesSpec : ChangeSpec := { name := "codecSplices", fn := fun _ => fun
  | [d] => { results := [.lit (.bool true)], args := [d] }
  | _ => none }
def codecSplicesRow : OpenClaim := { program := "ytmhhcfceikcfbaagreat", sum := "db6d42a8ca6fc9e42efa5fe16f93f17e6442ff6cd86f2216e29fc528c2cf086d", func := "obelus/obeluslaw51.CodecSplices", spec := "codecSplices", inPlace := ["internal/abi.NoEscape"], unfollowed := true, recurses := true, loops := true, apart := false }
def CodecSplicesSaid : Prop := codecSplicesRow.holds Tryz.pinned (OpenSpec.ofChange codecSplicesSpec)

/-- ITS FALSE NEIGHBOUR: 'it returns false'. Refute it at one input. -/
def codecSplicesWrong : ChangeSpec := { name := "codecSplices", fn := fun _ => fun
  | [d] => { results := [.lit (.bool false)], args := [d] }
  | _ => none }
def CodecSplicesWrongFalsely : Prop := codecSplicesRow.holds Tryz.pinned (OpenSpec.ofChange codecSplicesWrong)

/-- 'obeluslaw51.CodecCuts': WHATEVER THE INPUT: true; the input reads as it did. -/
def codecCutsSpec : ChangeSpec := { name := "codecCuts", fn := fun _ => fun
  | [d1, d2, d3] => { results := [.lit (.bool true)], args := [d1, d2, d3] }
  | _ => none }
def codecCutsRow : OpenClaim := { program := "ytmhhcfceikcfbaagreat", sum := "db6d42a8ca6fc9e42efa5fe16f93f17e6442ff6cd86f2216e29fc528c2cf086d", func := "obelus/obeluslaw51.CodecCuts", spec := "codecCuts", inPlace := ["internal/abi.NoEscape"], unfollowed := true, recurses := true, loops := true, apart := false }
def CodecCutsSaid : Prop := codecCutsRow.holds Tryz.pinned (OpenSpec.ofChange codecCutsSpec)

/-- ITS FALSE NEIGHBOUR: 'it returns false'. Refute it at one input. -/
def codecCutsWrong : ChangeSpec := { name := "codecCuts", fn := fun _ => fun
  | [d1, d2, d3] => { results := [.lit (.bool false)], args := [d1, d2, d3] }
  | _ => none }
def CodecCutsWrongFalsely : Prop := codecCutsRow.holds Tryz.pinned (OpenSpec.ofChange codecCutsWrong)

/-- 'obeluslaw51.CodecBytes': WHATEVER THE INPUT: true; the input reads as it did. -/
def codecBytesSpec : ChangeSpec := { name := "codecBytes", fn := fun _ => fun
  | [d] => { results := [.lit (.bool true)], args := [d] }
  | _ => none }
def codecBytesRow : OpenClaim := { program := "ytmhhcfceikcfbaagreat", sum := "db6d42a8ca6fc9e42efa5fe16f93f17e6442ff6cd86f2216e29fc528c2cf086d", func := "obelus/obeluslaw51.CodecBytes", spec := "codecBytes", inPlace := ["internal/abi.NoEscape"], unfollowed := true, recurses := true, apart := false }
def CodecBytesSaid : Prop := codecBytesRow.holds Tryz.pinned (OpenSpec.ofChange codecBytesSpec)

/-- ITS FALSE NEIGHBOUR: 'it returns false'. Refute it at one input. -/
def codecBytesWrong : ChangeSpec := { name := "codecBytes", fn := fun _ => fun
  | [d] => { results := [.lit (.bool false)], args := [d] }
  | _ => none }
def CodecBytesWrongFalsely : Prop := codecBytesRow.holds Tryz.pinned (OpenSpec.ofChange codecBytesWrong)

/-- 'obeluslaw51.CodecDocuments': WHATEVER THE INPUT: true; the input reads as it did. -/
def codecDocumentsSpec : ChangeSpec := { name := "codecDocuments", fn := fun _ => fun
  | [d] => { results := [.lit (.bool true)], args := [d] }
  | _ => none }
def codecDocumentsRow : OpenClaim := { program := "ytmhhcfceikcfbaagreat", sum := "db6d42a8ca6fc9e42efa5fe16f93f17e6442ff6cd86f2216e29fc528c2cf086d", func := "obelus/obeluslaw51.CodecDocuments", spec := "codecDocuments", inPlace := ["internal/abi.NoEscape"], unfollowed := true, recurses := true, loops := true, apart := false }
def CodecDocumentsSaid : Prop := codecDocumentsRow.holds Tryz.pinned (OpenSpec.ofChange codecDocumentsSpec)

/-- ITS FALSE NEIGHBOUR: 'it returns false'. Refute it at one input. -/
def codecDocumentsWrong : ChangeSpec := { name := "codecDocuments", fn := fun _ => fun
  | [d] => { results := [.lit (.bool false)], args := [d] }
  | _ => none }
def CodecDocumentsWrongFalsely : Prop := codecDocumentsRow.holds Tryz.pinned (OpenSpec.ofChange codecDocumentsWrong)

/-- 'obeluslaw51.CodecDecodes': WHATEVER THE INPUT: true; the input reads as it did. -/
def codecDecodesSpec : ChangeSpec := { name := "codecDecodes", fn := fun _ => fun
  | [d] => { results := [.lit (.bool true)], args := [d] }
  | _ => none }
def codecDecodesRow : OpenClaim := { program := "ytmhhcfceikcfbaagreat", sum := "db6d42a8ca6fc9e42efa5fe16f93f17e6442ff6cd86f2216e29fc528c2cf086d", func := "obelus/obeluslaw51.CodecDecodes", spec := "codecDecodes", inPlace := ["internal/abi.NoEscape"], unfollowed := true, recurses := true, apart := false }
def CodecDecodesSaid : Prop := codecDecodesRow.holds Tryz.pinned (OpenSpec.ofChange codecDecodesSpec)

/-- ITS FALSE NEIGHBOUR: 'it returns false'. Refute it at one input. -/
def codecDecodesWrong : ChangeSpec := { name := "codecDecodes", fn := fun _ => fun
  | [d] => { results := [.lit (.bool false)], args := [d] }
  | _ => none }
def CodecDecodesWrongFalsely : Prop := codecDecodesRow.holds Tryz.pinned (OpenSpec.ofChange codecDecodesWrong)

/- THE SECOND FORM. 'bulk': how many values and letters a reading holds, each counted each time it is reached (what is shared counts as often as it is met; a slice's spare places count too). A statement '..UptoSaid' is the law's where the arguments, and the package variables that the reading takes, are together of bulk at most 1048576: NARROWER than '..Said'. Prove '..Said' where nothing that the law and all that it calls make is longer than what came in: it says more and counts as full. Else prove '..UptoSaid'. A law counts once. -/
mutual
def uptoBulk {H : Type} : DataW H → Nat
  | .lit (.string bytes) => bytes.length + 1
  | .lit _ => 1
  | .nil => 1
  | .ptr d => uptoBulk d + 1
  | .slice elems spare => uptoBulkAll elems + uptoBulkAll spare + 1
  | .agg parts => uptoBulkAll parts + 1
  | .iface _ d => uptoBulk d + 1
  | .map entries => uptoBulkEntries entries + 1
  | .held _ => 1
def uptoBulkAll {H : Type} : List (DataW H) → Nat
  | [] => 0
  | d :: r => uptoBulk d + uptoBulkAll r
def uptoBulkEntries {H : Type} : List (Lit × DataW H) → Nat
  | [] => 0
  | x :: r => uptoBulkEntry x + uptoBulkEntries r
def uptoBulkEntry {H : Type} : Lit × DataW H → Nat
  | (.string bytes, d) => bytes.length + uptoBulk d + 1
  | (_, d) => uptoBulk d + 1
 end
def uptoSmall : (H : Type) → List (DataW H) → Bool := fun _ ds => decide (uptoBulkAll ds ≤ 1048576)
def OpenSpec.upto (s : _root_.Go.ChangeSpec) : _root_.Go.OpenSpec := { _root_.Go.OpenSpec.ofChange s with cond := some uptoSmall }

/-- 'obeluslaw51.CodecNumbers', WHERE WHAT IT READS IS OF BULK AT MOST 1048576: true; the input reads as it did. -/
def codecNumbersUptoRow : OpenClaim := { program := "ytmhhcfceikcfbaagreat", sum := "db6d42a8ca6fc9e42efa5fe16f93f17e6442ff6cd86f2216e29fc528c2cf086d", func := "obelus/obeluslaw51.CodecNumbers", spec := "codecNumbers", inPlace := ["internal/abi.NoEscape"], unfollowed := true, recurses := true, apart := false, narrowed := true }
def CodecNumbersUptoSaid : Prop := codecNumbersUptoRow.holds Tryz.pinned (OpenSpec.upto codecNumbersSpec)

/-- 'obeluslaw51.CodecReads', WHERE WHAT IT READS IS OF BULK AT MOST 1048576: true; the input reads as it did. -/
def codecReadsUptoRow : OpenClaim := { program := "ytmhhcfceikcfbaagreat", sum := "db6d42a8ca6fc9e42efa5fe16f93f17e6442ff6cd86f2216e29fc528c2cf086d", func := "obelus/obeluslaw51.CodecReads", spec := "codecReads", inPlace := ["internal/abi.NoEscape"], unfollowed := true, recurses := true, apart := false, narrowed := true }
def CodecReadsUptoSaid : Prop := codecReadsUptoRow.holds Tryz.pinned (OpenSpec.upto codecReadsSpec)

/-- 'obeluslaw51.CodecDiffers', WHERE WHAT IT READS IS OF BULK AT MOST 1048576: true; the input reads as it did. -/
def codecDiffersUptoRow : OpenClaim := { program := "ytmhhcfceikcfbaagreat", sum := "db6d42a8ca6fc9e42efa5fe16f93f17e6442ff6cd86f2216e29fc528c2cf086d", func := "obelus/obeluslaw51.CodecDiffers", spec := "codecDiffers", inPlace := ["internal/abi.NoEscape"], unfollowed := true, recurses := true, loops := true, apart := false, narrowed := true }
def CodecDiffersUptoSaid : Prop := codecDiffersUptoRow.holds Tryz.pinned (OpenSpec.upto codecDiffersSpec)

/-- 'obeluslaw51.CodecItems', WHERE WHAT IT READS IS OF BULK AT MOST 1048576: true; the input reads as it did. -/
def codecItemsUptoRow : OpenClaim := { program := "ytmhhcfceikcfbaagreat", sum := "db6d42a8ca6fc9e42efa5fe16f93f17e6442ff6cd86f2216e29fc528c2cf086d", func := "obelus/obeluslaw51.CodecItems", spec := "codecItems", inPlace := ["internal/abi.NoEscape"], unfollowed := true, recurses := true, loops := true, apart := false, narrowed := true }
def CodecItemsUptoSaid : Prop := codecItemsUptoRow.holds Tryz.pinned (OpenSpec.upto codecItemsSpec)

/-- 'obeluslaw51.CodecEdits', WHERE WHAT IT READS IS OF BULK AT MOST 1048576: true; the input reads as it did. -/
def codecEditsUptoRow : OpenClaim := { program := "ytmhhcfceikcfbaagreat", sum := "db6d42a8ca6fc9e42efa5fe16f93f17e6442ff6cd86f2216e29fc528c2cf086d", func := "obelus/obeluslaw51.CodecEdits", spec := "codecEdits", inPlace := ["internal/abi.NoEscape"], unfollowed := true, recurses := true, loops := true, apart := false, narrowed := true }
def CodecEditsUptoSaid : Prop := codecEditsUptoRow.holds Tryz.pinned (OpenSpec.upto codecEditsSpec)

/-- 'obeluslaw51.CodecSplices', WHERE WHAT IT READS IS OF BULK AT MOST 1048576: true; the input reads as it did. -/
def codecSplicesUptoRow : OpenClaim := { program := "ytmhhcfceikcfbaagreat", sum := "db6d42a8ca6fc9e42efa5fe16f93f17e6442ff6cd86f2216e29fc528c2cf086d", func := "obelus/obeluslaw51.CodecSplices", spec := "codecSplices", inPlace := ["internal/abi.NoEscape"], unfollowed := true, recurses := true, loops := true, apart := false, narrowed := true }
def CodecSplicesUptoSaid : Prop := codecSplicesUptoRow.holds Tryz.pinned (OpenSpec.upto codecSplicesSpec)

/-- 'obeluslaw51.CodecCuts', WHERE WHAT IT READS IS OF BULK AT MOST 1048576: true; the input reads as it did. -/
def codecCutsUptoRow : OpenClaim := { program := "ytmhhcfceikcfbaagreat", sum := "db6d42a8ca6fc9e42efa5fe16f93f17e6442ff6cd86f2216e29fc528c2cf086d", func := "obelus/obeluslaw51.CodecCuts", spec := "codecCuts", inPlace := ["internal/abi.NoEscape"], unfollowed := true, recurses := true, loops := true, apart := false, narrowed := true }
def CodecCutsUptoSaid : Prop := codecCutsUptoRow.holds Tryz.pinned (OpenSpec.upto codecCutsSpec)

/-- 'obeluslaw51.CodecBytes', WHERE WHAT IT READS IS OF BULK AT MOST 1048576: true; the input reads as it did. -/
def codecBytesUptoRow : OpenClaim := { program := "ytmhhcfceikcfbaagreat", sum := "db6d42a8ca6fc9e42efa5fe16f93f17e6442ff6cd86f2216e29fc528c2cf086d", func := "obelus/obeluslaw51.CodecBytes", spec := "codecBytes", inPlace := ["internal/abi.NoEscape"], unfollowed := true, recurses := true, apart := false, narrowed := true }
def CodecBytesUptoSaid : Prop := codecBytesUptoRow.holds Tryz.pinned (OpenSpec.upto codecBytesSpec)

/-- 'obeluslaw51.CodecDocuments', WHERE WHAT IT READS IS OF BULK AT MOST 1048576: true; the input reads as it did. -/
def codecDocumentsUptoRow : OpenClaim := { program := "ytmhhcfceikcfbaagreat", sum := "db6d42a8ca6fc9e42efa5fe16f93f17e6442ff6cd86f2216e29fc528c2cf086d", func := "obelus/obeluslaw51.CodecDocuments", spec := "codecDocuments", inPlace := ["internal/abi.NoEscape"], unfollowed := true, recurses := true, loops := true, apart := false, narrowed := true }
def CodecDocumentsUptoSaid : Prop := codecDocumentsUptoRow.holds Tryz.pinned (OpenSpec.upto codecDocumentsSpec)

/-- 'obeluslaw51.CodecDecodes', WHERE WHAT IT READS IS OF BULK AT MOST 1048576: true; the input reads as it did. -/
def codecDecodesUptoRow : OpenClaim := { program := "ytmhhcfceikcfbaagreat", sum := "db6d42a8ca6fc9e42efa5fe16f93f17e6442ff6cd86f2216e29fc528c2cf086d", func := "obelus/obeluslaw51.CodecDecodes", spec := "codecDecodes", inPlace := ["internal/abi.NoEscape"], unfollowed := true, recurses := true, apart := false, narrowed := true }
def CodecDecodesUptoSaid : Prop := codecDecodesUptoRow.holds Tryz.pinned (OpenSpec.upto codecDecodesSpec)

end Rows
end Go.Proofs.YtmhhcfceikcfbaaGreat
