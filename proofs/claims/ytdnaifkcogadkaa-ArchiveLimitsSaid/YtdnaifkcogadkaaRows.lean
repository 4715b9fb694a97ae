/-
  No cell of these rows narrows 'for every input' (looked for: loops, veiled, ifaces, maps, wideKeys, modest, calm, conditions, laid).
  DERIVED. THE GIVEN ROWS OF THIS SEAT. 10 by the template 'for every input the law returns true; each argument reads behind the call as it read before'; 0 by the template 'total and deterministic' (their statements: YtdnaifkcogadkaaTotals.lean).
  GIVEN WITH THE SEED: the statements are not yours to turn. If you find one false, say at which input.
  Laid BY PROGRAM, IN A SANDBOX (cutbox-rows.mjs): the forced cells as the released guide's own fill.sh prints them over the translation 88618923597b5206… (all of the seat's roots in one cut). By AI agents, Wed Nov 11 2026. No macro, syntax, notation, axiom, sorry.
-/
import Derived.Test.YtdnaifkcogadkaaChecked
import GoSem.Claim
import GoSem.ClaimJoined
import GoSem.ClaimMapViews
import Derived.JoinedTies
import Derived.KernelRfl
namespace Go.Proofs.Ytdnaifkcogadkaa
/- THE CELL 'sum', in the pinned program and in every row, IS THE sha256 OF THE DUMP (.gsa) THAT YtdnaifkcogadkaaProg.lean LOADS. Nothing in Lean hashes anything: it is a label: what it is worth is what the hold of that sum in a sandbox is worth. -/
noncomputable def Try.pinned : Pinned := { name := "ytdnaifkcogadkaa", sum := "88618923597b5206125333e38d1904c242b0431f0a4a49495504958c04502147", checked := Try.checked }
namespace Rows
def none {H : Type} : Left H := { results := [], args := [] }

/-- 'obeluslaw52.ArchiveEncodes': WHATEVER THE INPUT: true; the input reads as it did. -/
def archiveEncodesSpec : ChangeSpec := { name := "archiveEncodes", fn := fun _ => fun
  | [d] => { results := [.lit (.bool true)], args := [d] }
  | _ => none }
def archiveEncodesRow : OpenClaim := { program := "ytdnaifkcogadkaa", sum := "88618923597b5206125333e38d1904c242b0431f0a4a49495504958c04502147", func := "obelus/obeluslaw52.ArchiveEncodes", spec := "archiveEncodes", unfollowed := true, recurses := true, apart := false }
def ArchiveEncodesSaid : Prop := archiveEncodesRow.holds Try.pinned (OpenSpec.ofChange archiveEncodesSpec)

/-- ITS FALSE NEIGHBOUR: 'it returns false'. Refute it at one input. -/
def archiveEncodesWrong : ChangeSpec := { name := "archiveEncodes", fn := fun _ => fun
  | [d] => { results := [.lit (.bool false)], args := [d] }
  | _ => none }
def ArchiveEncodesWrongFalsely : Prop := archiveEncodesRow.holds Try.pinned (OpenSpec.ofChange archiveEncodesWrong)

/-- 'obeluslaw52.ArchiveNames': WHATEVER THE INPUT: true; the input reads as it did. -/
def archiveNamesSpec : ChangeSpec := { name := "archiveNames", fn := fun _ => fun
  | [d1, d2] => { results := [.lit (.bool true)], args := [d1, d2] }
  | _ => none }
def archiveNamesRow : OpenClaim := { program := "ytdnaifkcogadkaa", sum := "88618923597b5206125333e38d1904c242b0431f0a4a49495504958c04502147", func := "obelus/obeluslaw52.ArchiveNames", spec := "archiveNames", unfollowed := true, recurses := true, apart := false }
def ArchiveNamesSaid : Prop := archiveNamesRow.holds Try.pinned (OpenSpec.ofChange archiveNamesSpec)

/-- ITS FALSE NEIGHBOUR: 'it returns false'. Refute it at one input. -/
def archiveNamesWrong : ChangeSpec := { name := "archiveNames", fn := fun _ => fun
  | [d1, d2] => { results := [.lit (.bool false)], args := [d1, d2] }
  | _ => none }
def ArchiveNamesWrongFalsely : Prop := archiveNamesRow.holds Try.pinned (OpenSpec.ofChange archiveNamesWrong)

/-- 'obeluslaw52.ArchiveLimits': WHATEVER THE INPUT: true; the input reads as it did. -/
def archiveLimitsSpec : ChangeSpec := { name := "archiveLimits", fn := fun _ => fun
  | [d1, d2] => { results := [.lit (.bool true)], args := [d1, d2] }
  | _ => none }
def archiveLimitsRow : OpenClaim := { program := "ytdnaifkcogadkaa", sum := "88618923597b5206125333e38d1904c242b0431f0a4a49495504958c04502147", func := "obelus/obeluslaw52.ArchiveLimits", spec := "archiveLimits", unfollowed := true, recurses := true, apart := false }
def ArchiveLimitsSaid : Prop := archiveLimitsRow.holds Try.pinned (OpenSpec.ofChange archiveLimitsSpec)

/-- ITS FALSE NEIGHBOUR: 'it returns false'. Refute it at one input. -/
def archiveLimitsWrong : ChangeSpec := { name := "archiveLimits", fn := fun _ => fun
  | [d1, d2] => { results := [.lit (.bool false)], args := [d1, d2] }
  | _ => none }
def ArchiveLimitsWrongFalsely : Prop := archiveLimitsRow.holds Try.pinned (OpenSpec.ofChange archiveLimitsWrong)

/-- 'obeluslaw52.ArchiveDecodes': WHATEVER THE INPUT: true; the input reads as it did. -/
def archiveDecodesSpec : ChangeSpec := { name := "archiveDecodes", fn := fun _ => fun
  | [d] => { results := [.lit (.bool true)], args := [d] }
  | _ => none }
def archiveDecodesRow : OpenClaim := { program := "ytdnaifkcogadkaa", sum := "88618923597b5206125333e38d1904c242b0431f0a4a49495504958c04502147", func := "obelus/obeluslaw52.ArchiveDecodes", spec := "archiveDecodes", unfollowed := true, recurses := true, apart := false }
def ArchiveDecodesSaid : Prop := archiveDecodesRow.holds Try.pinned (OpenSpec.ofChange archiveDecodesSpec)

/-- ITS FALSE NEIGHBOUR: 'it returns false'. Refute it at one input. -/
def archiveDecodesWrong : ChangeSpec := { name := "archiveDecodes", fn := fun _ => fun
  | [d] => { results := [.lit (.bool false)], args := [d] }
  | _ => none }
def ArchiveDecodesWrongFalsely : Prop := archiveDecodesRow.holds Try.pinned (OpenSpec.ofChange archiveDecodesWrong)

/-- 'obeluslaw52.ArchiveForged': WHATEVER THE INPUT: true; the input reads as it did. -/
def archiveForgedSpec : ChangeSpec := { name := "archiveForged", fn := fun _ => fun
  | [d1, d2] => { results := [.lit (.bool true)], args := [d1, d2] }
  | _ => none }
def archiveForgedRow : OpenClaim := { program := "ytdnaifkcogadkaa", sum := "88618923597b5206125333e38d1904c242b0431f0a4a49495504958c04502147", func := "obelus/obeluslaw52.ArchiveForged", spec := "archiveForged", unfollowed := true, recurses := true, apart := false }
def ArchiveForgedSaid : Prop := archiveForgedRow.holds Try.pinned (OpenSpec.ofChange archiveForgedSpec)

/-- ITS FALSE NEIGHBOUR: 'it returns false'. Refute it at one input. -/
def archiveForgedWrong : ChangeSpec := { name := "archiveForged", fn := fun _ => fun
  | [d1, d2] => { results := [.lit (.bool false)], args := [d1, d2] }
  | _ => none }
def ArchiveForgedWrongFalsely : Prop := archiveForgedRow.holds Try.pinned (OpenSpec.ofChange archiveForgedWrong)

/-- 'obeluslaw52.ArchiveReturns': WHATEVER THE INPUT: true; the input reads as it did. -/
def archiveReturnsSpec : ChangeSpec := { name := "archiveReturns", fn := fun _ => fun
  | [d] => { results := [.lit (.bool true)], args := [d] }
  | _ => none }
def archiveReturnsRow : OpenClaim := { program := "ytdnaifkcogadkaa", sum := "88618923597b5206125333e38d1904c242b0431f0a4a49495504958c04502147", func := "obelus/obeluslaw52.ArchiveReturns", spec := "archiveReturns", unfollowed := true, recurses := true, apart := false }
def ArchiveReturnsSaid : Prop := archiveReturnsRow.holds Try.pinned (OpenSpec.ofChange archiveReturnsSpec)

/-- ITS FALSE NEIGHBOUR: 'it returns false'. Refute it at one input. -/
def archiveReturnsWrong : ChangeSpec := { name := "archiveReturns", fn := fun _ => fun
  | [d] => { results := [.lit (.bool false)], args := [d] }
  | _ => none }
def ArchiveReturnsWrongFalsely : Prop := archiveReturnsRow.holds Try.pinned (OpenSpec.ofChange archiveReturnsWrong)

/-- 'obeluslaw52.ArchiveDamages': WHATEVER THE INPUT: true; the input reads as it did. -/
def archiveDamagesSpec : ChangeSpec := { name := "archiveDamages", fn := fun _ => fun
  | [d1, d2] => { results := [.lit (.bool true)], args := [d1, d2] }
  | _ => none }
def archiveDamagesRow : OpenClaim := { program := "ytdnaifkcogadkaa", sum := "88618923597b5206125333e38d1904c242b0431f0a4a49495504958c04502147", func := "obelus/obeluslaw52.ArchiveDamages", spec := "archiveDamages", unfollowed := true, recurses := true, apart := false }
def ArchiveDamagesSaid : Prop := archiveDamagesRow.holds Try.pinned (OpenSpec.ofChange archiveDamagesSpec)

/-- ITS FALSE NEIGHBOUR: 'it returns false'. Refute it at one input. -/
def archiveDamagesWrong : ChangeSpec := { name := "archiveDamages", fn := fun _ => fun
  | [d1, d2] => { results := [.lit (.bool false)], args := [d1, d2] }
  | _ => none }
def ArchiveDamagesWrongFalsely : Prop := archiveDamagesRow.holds Try.pinned (OpenSpec.ofChange archiveDamagesWrong)

/-- 'obeluslaw52.ArchiveOpens': WHATEVER THE INPUT: true; the input reads as it did. -/
def archiveOpensSpec : ChangeSpec := { name := "archiveOpens", fn := fun _ => fun
  | [d1, d2, d3] => { results := [.lit (.bool true)], args := [d1, d2, d3] }
  | _ => none }
def archiveOpensRow : OpenClaim := { program := "ytdnaifkcogadkaa", sum := "88618923597b5206125333e38d1904c242b0431f0a4a49495504958c04502147", func := "obelus/obeluslaw52.ArchiveOpens", spec := "archiveOpens", unfollowed := true, recurses := true, apart := false }
def ArchiveOpensSaid : Prop := archiveOpensRow.holds Try.pinned (OpenSpec.ofChange archiveOpensSpec)

/-- ITS FALSE NEIGHBOUR: 'it returns false'. Refute it at one input. -/
def archiveOpensWrong : ChangeSpec := { name := "archiveOpens", fn := fun _ => fun
  | [d1, d2, d3] => { results := [.lit (.bool false)], args := [d1, d2, d3] }
  | _ => none }
def ArchiveOpensWrongFalsely : Prop := archiveOpensRow.holds Try.pinned (OpenSpec.ofChange archiveOpensWrong)

/-- 'obeluslaw52.ArchiveRemoves': WHATEVER THE INPUT: true; the input reads as it did. -/
def archiveRemovesSpec : ChangeSpec := { name := "archiveRemoves", fn := fun _ => fun
  | [d1, d2, d3] => { results := [.lit (.bool true)], args := [d1, d2, d3] }
  | _ => none }
def archiveRemovesRow : OpenClaim := { program := "ytdnaifkcogadkaa", sum := "88618923597b5206125333e38d1904c242b0431f0a4a49495504958c04502147", func := "obelus/obeluslaw52.ArchiveRemoves", spec := "archiveRemoves", unfollowed := true, recurses := true, apart := false }
def ArchiveRemovesSaid : Prop := archiveRemovesRow.holds Try.pinned (OpenSpec.ofChange archiveRemovesSpec)

/-- ITS FALSE NEIGHBOUR: 'it returns false'. Refute it at one input. -/
def archiveRemovesWrong : ChangeSpec := { name := "archiveRemoves", fn := fun _ => fun
  | [d1, d2, d3] => { results := [.lit (.bool false)], args := [d1, d2, d3] }
  | _ => none }
def ArchiveRemovesWrongFalsely : Prop := archiveRemovesRow.holds Try.pinned (OpenSpec.ofChange archiveRemovesWrong)

/-- 'obeluslaw52.ArchivePuts': WHATEVER THE INPUT: true; the input reads as it did. -/
def archivePutsSpec : ChangeSpec := { name := "archivePuts", fn := fun _ => fun
  | [d1, d2] => { results := [.lit (.bool true)], args := [d1, d2] }
  | _ => none }
def archivePutsRow : OpenClaim := { program := "ytdnaifkcogadkaa", sum := "88618923597b5206125333e38d1904c242b0431f0a4a49495504958c04502147", func := "obelus/obeluslaw52.ArchivePuts", spec := "archivePuts", unfollowed := true, recurses := true, apart := false }
def ArchivePutsSaid : Prop := archivePutsRow.holds Try.pinned (OpenSpec.ofChange archivePutsSpec)

/-- ITS FALSE NEIGHBOUR: 'it returns false'. Refute it at one input. -/
def archivePutsWrong : ChangeSpec := { name := "archivePuts", fn := fun _ => fun
  | [d1, d2] => { results := [.lit (.bool false)], args := [d1, d2] }
  | _ => none }
def ArchivePutsWrongFalsely : Prop := archivePutsRow.holds Try.pinned (OpenSpec.ofChange archivePutsWrong)

/- THE SECOND FORM. 'bulk': how many values and letters a reading holds, each counted each time it is reached (what is shared counts as often as it is met; a slice's spare places count too). A statement '..UptoSaid' is the law's where the arguments, and the package variables that the reading takes, are together of bulk at most 1048576: NARROWER than '..Said'. Prove '..Said' where nothing that the law and all that it calls make is longer than what came in: it says more and counts as full. Else prove '..UptoSaid'. A law counts once. -/
mutual
def uptoBulk {H : Type} : DataW H → Nat
  | .lit (.string bytes) => bytes.length + 1
  | .lit _ => 1
  | .nil => 1
  | .ptr d => uptoBulk d + 1
  | .slice elems spare => uptoBulkAll elems + uptoBulkAll spare + 1
  | .agg parts => uptoBulkAll parts + 1
  | .iface _ d => uptoBulk d + 1
  | .map entries => uptoBulkEntries entries + 1
  | .held _ => 1
def uptoBulkAll {H : Type} : List (DataW H) → Nat
  | [] => 0
  | d :: r => uptoBulk d + uptoBulkAll r
def uptoBulkEntries {H : Type} : List (Lit × DataW H) → Nat
  | [] => 0
  | x :: r => uptoBulkEntry x + uptoBulkEntries r
def uptoBulkEntry {H : Type} : Lit × DataW H → Nat
  | (.string bytes, d) => bytes.length + uptoBulk d + 1
  | (_, d) => uptoBulk d + 1
 end
def uptoSmall : (H : Type) → List (DataW H) → Bool := fun _ ds => decide (uptoBulkAll ds ≤ 1048576)
def OpenSpec.upto (s : _root_.Go.ChangeSpec) : _root_.Go.OpenSpec := { _root_.Go.OpenSpec.ofChange s with cond := some uptoSmall }

/-- 'obeluslaw52.ArchiveEncodes', WHERE WHAT IT READS IS OF BULK AT MOST 1048576: true; the input reads as it did. -/
def archiveEncodesUptoRow : OpenClaim := { program := "ytdnaifkcogadkaa", sum := "88618923597b5206125333e38d1904c242b0431f0a4a49495504958c04502147", func := "obelus/obeluslaw52.ArchiveEncodes", spec := "archiveEncodes", unfollowed := true, recurses := true, apart := false, narrowed := true }
def ArchiveEncodesUptoSaid : Prop := archiveEncodesUptoRow.holds Try.pinned (OpenSpec.upto archiveEncodesSpec)

/-- 'obeluslaw52.ArchiveNames', WHERE WHAT IT READS IS OF BULK AT MOST 1048576: true; the input reads as it did. -/
def archiveNamesUptoRow : OpenClaim := { program := "ytdnaifkcogadkaa", sum := "88618923597b5206125333e38d1904c242b0431f0a4a49495504958c04502147", func := "obelus/obeluslaw52.ArchiveNames", spec := "archiveNames", unfollowed := true, recurses := true, apart := false, narrowed := true }
def ArchiveNamesUptoSaid : Prop := archiveNamesUptoRow.holds Try.pinned (OpenSpec.upto archiveNamesSpec)

/-- 'obeluslaw52.ArchiveLimits', WHERE WHAT IT READS IS OF BULK AT MOST 1048576: true; the input reads as it did. -/
def archiveLimitsUptoRow : OpenClaim := { program := "ytdnaifkcogadkaa", sum := "88618923597b5206125333e38d1904c242b0431f0a4a49495504958c04502147", func := "obelus/obeluslaw52.ArchiveLimits", spec := "archiveLimits", unfollowed := true, recurses := true, apart := false, narrowed := true }
def ArchiveLimitsUptoSaid : Prop := archiveLimitsUptoRow.holds Try.pinned (OpenSpec.upto archiveLimitsSpec)

/-- 'obeluslaw52.ArchiveDecodes', WHERE WHAT IT READS IS OF BULK AT MOST 1048576: true; the input reads as it did. -/
def archiveDecodesUptoRow : OpenClaim := { program := "ytdnaifkcogadkaa", sum := "88618923597b5206125333e38d1904c242b0431f0a4a49495504958c04502147", func := "obelus/obeluslaw52.ArchiveDecodes", spec := "archiveDecodes", unfollowed := true, recurses := true, apart := false, narrowed := true }
def ArchiveDecodesUptoSaid : Prop := archiveDecodesUptoRow.holds Try.pinned (OpenSpec.upto archiveDecodesSpec)

/-- 'obeluslaw52.ArchiveForged', WHERE WHAT IT READS IS OF BULK AT MOST 1048576: true; the input reads as it did. -/
def archiveForgedUptoRow : OpenClaim := { program := "ytdnaifkcogadkaa", sum := "88618923597b5206125333e38d1904c242b0431f0a4a49495504958c04502147", func := "obelus/obeluslaw52.ArchiveForged", spec := "archiveForged", unfollowed := true, recurses := true, apart := false, narrowed := true }
def ArchiveForgedUptoSaid : Prop := archiveForgedUptoRow.holds Try.pinned (OpenSpec.upto archiveForgedSpec)

/-- 'obeluslaw52.ArchiveReturns', WHERE WHAT IT READS IS OF BULK AT MOST 1048576: true; the input reads as it did. -/
def archiveReturnsUptoRow : OpenClaim := { program := "ytdnaifkcogadkaa", sum := "88618923597b5206125333e38d1904c242b0431f0a4a49495504958c04502147", func := "obelus/obeluslaw52.ArchiveReturns", spec := "archiveReturns", unfollowed := true, recurses := true, apart := false, narrowed := true }
def ArchiveReturnsUptoSaid : Prop := archiveReturnsUptoRow.holds Try.pinned (OpenSpec.upto archiveReturnsSpec)

/-- 'obeluslaw52.ArchiveDamages', WHERE WHAT IT READS IS OF BULK AT MOST 1048576: true; the input reads as it did. -/
def archiveDamagesUptoRow : OpenClaim := { program := "ytdnaifkcogadkaa", sum := "88618923597b5206125333e38d1904c242b0431f0a4a49495504958c04502147", func := "obelus/obeluslaw52.ArchiveDamages", spec := "archiveDamages", unfollowed := true, recurses := true, apart := false, narrowed := true }
def ArchiveDamagesUptoSaid : Prop := archiveDamagesUptoRow.holds Try.pinned (OpenSpec.upto archiveDamagesSpec)

/-- 'obeluslaw52.ArchiveOpens', WHERE WHAT IT READS IS OF BULK AT MOST 1048576: true; the input reads as it did. -/
def archiveOpensUptoRow : OpenClaim := { program := "ytdnaifkcogadkaa", sum := "88618923597b5206125333e38d1904c242b0431f0a4a49495504958c04502147", func := "obelus/obeluslaw52.ArchiveOpens", spec := "archiveOpens", unfollowed := true, recurses := true, apart := false, narrowed := true }
def ArchiveOpensUptoSaid : Prop := archiveOpensUptoRow.holds Try.pinned (OpenSpec.upto archiveOpensSpec)

/-- 'obeluslaw52.ArchiveRemoves', WHERE WHAT IT READS IS OF BULK AT MOST 1048576: true; the input reads as it did. -/
def archiveRemovesUptoRow : OpenClaim := { program := "ytdnaifkcogadkaa", sum := "88618923597b5206125333e38d1904c242b0431f0a4a49495504958c04502147", func := "obelus/obeluslaw52.ArchiveRemoves", spec := "archiveRemoves", unfollowed := true, recurses := true, apart := false, narrowed := true }
def ArchiveRemovesUptoSaid : Prop := archiveRemovesUptoRow.holds Try.pinned (OpenSpec.upto archiveRemovesSpec)

/-- 'obeluslaw52.ArchivePuts', WHERE WHAT IT READS IS OF BULK AT MOST 1048576: true; the input reads as it did. -/
def archivePutsUptoRow : OpenClaim := { program := "ytdnaifkcogadkaa", sum := "88618923597b5206125333e38d1904c242b0431f0a4a49495504958c04502147", func := "obelus/obeluslaw52.ArchivePuts", spec := "archivePuts", unfollowed := true, recurses := true, apart := false, narrowed := true }
def ArchivePutsUptoSaid : Prop := archivePutsUptoRow.holds Try.pinned (OpenSpec.upto archivePutsSpec)

end Rows
end Go.Proofs.Ytdnaifkcogadkaa
