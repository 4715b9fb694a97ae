/-
  No cell of these rows narrows 'for every input' (looked for: loops, veiled, ifaces, maps, wideKeys, modest, calm, conditions, laid).
  DERIVED. THE GIVEN ROWS OF THIS SEAT. 9 by the template 'for every input the law returns true; each argument reads behind the call as it read before'; 0 by the template 'total and deterministic' (their statements: YtbpegoekjlehcaaTotals.lean).
  GIVEN WITH THE SEED: the statements are not yours to turn. If you find one false, say at which input.
  Laid BY PROGRAM, IN A SANDBOX (cutbox-rows.mjs): the forced cells as the released guide's own fill.sh prints them over the translation e8eb9f40cf9cb456… (all of the seat's roots in one cut). By AI agents, Wed Nov 11 2026. No macro, syntax, notation, axiom, sorry.
-/
import Derived.Test.YtbpegoekjlehcaaChecked
import GoSem.Claim
import GoSem.ClaimJoined
import GoSem.ClaimMapViews
import Derived.JoinedTies
import Derived.KernelRfl
namespace Go.Proofs.Ytbpegoekjlehcaa
/- THE CELL 'sum', in the pinned program and in every row, IS THE sha256 OF THE DUMP (.gsa) THAT YtbpegoekjlehcaaProg.lean LOADS. Nothing in Lean hashes anything: it is a label: what it is worth is what the hold of that sum in a sandbox is worth. -/
noncomputable def Try.pinned : Pinned := { name := "ytbpegoekjlehcaa", sum := "e8eb9f40cf9cb4564a1e08758a3cdb0dc0070f096033272dff14d6c90385965e", checked := Try.checked }
namespace Rows
def none {H : Type} : Left H := { results := [], args := [] }

/-- 'obeluslaw30.AlignmentAligns': WHATEVER THE INPUT: true; the input reads as it did. -/
def alignmentAlignsSpec : ChangeSpec := { name := "alignmentAligns", fn := fun _ => fun
  | [d1, d2] => { results := [.lit (.bool true)], args := [d1, d2] }
  | _ => none }
def alignmentAlignsRow : OpenClaim := { program := "ytbpegoekjlehcaa", sum := "e8eb9f40cf9cb4564a1e08758a3cdb0dc0070f096033272dff14d6c90385965e", func := "obelus/obeluslaw30.AlignmentAligns", spec := "alignmentAligns", apart := false }
def AlignmentAlignsSaid : Prop := alignmentAlignsRow.holds Try.pinned (OpenSpec.ofChange alignmentAlignsSpec)

/-- ITS FALSE NEIGHBOUR: 'it returns false'. Refute it at one input. -/
def alignmentAlignsWrong : ChangeSpec := { name := "alignmentAligns", fn := fun _ => fun
  | [d1, d2] => { results := [.lit (.bool false)], args := [d1, d2] }
  | _ => none }
def AlignmentAlignsWrongFalsely : Prop := alignmentAlignsRow.holds Try.pinned (OpenSpec.ofChange alignmentAlignsWrong)

/-- 'obeluslaw30.AlignmentOptimal': WHATEVER THE INPUT: true; the input reads as it did. -/
def alignmentOptimalSpec : ChangeSpec := { name := "alignmentOptimal", fn := fun _ => fun
  | [d1, d2, d3] => { results := [.lit (.bool true)], args := [d1, d2, d3] }
  | _ => none }
def alignmentOptimalRow : OpenClaim := { program := "ytbpegoekjlehcaa", sum := "e8eb9f40cf9cb4564a1e08758a3cdb0dc0070f096033272dff14d6c90385965e", func := "obelus/obeluslaw30.AlignmentOptimal", spec := "alignmentOptimal", apart := false }
def AlignmentOptimalSaid : Prop := alignmentOptimalRow.holds Try.pinned (OpenSpec.ofChange alignmentOptimalSpec)

/-- ITS FALSE NEIGHBOUR: 'it returns false'. Refute it at one input. -/
def alignmentOptimalWrong : ChangeSpec := { name := "alignmentOptimal", fn := fun _ => fun
  | [d1, d2, d3] => { results := [.lit (.bool false)], args := [d1, d2, d3] }
  | _ => none }
def AlignmentOptimalWrongFalsely : Prop := alignmentOptimalRow.holds Try.pinned (OpenSpec.ofChange alignmentOptimalWrong)

/-- 'obeluslaw30.AlignmentTurns': WHATEVER THE INPUT: true; the input reads as it did. -/
def alignmentTurnsSpec : ChangeSpec := { name := "alignmentTurns", fn := fun _ => fun
  | [d1, d2] => { results := [.lit (.bool true)], args := [d1, d2] }
  | _ => none }
def alignmentTurnsRow : OpenClaim := { program := "ytbpegoekjlehcaa", sum := "e8eb9f40cf9cb4564a1e08758a3cdb0dc0070f096033272dff14d6c90385965e", func := "obelus/obeluslaw30.AlignmentTurns", spec := "alignmentTurns", apart := false }
def AlignmentTurnsSaid : Prop := alignmentTurnsRow.holds Try.pinned (OpenSpec.ofChange alignmentTurnsSpec)

/-- ITS FALSE NEIGHBOUR: 'it returns false'. Refute it at one input. -/
def alignmentTurnsWrong : ChangeSpec := { name := "alignmentTurns", fn := fun _ => fun
  | [d1, d2] => { results := [.lit (.bool false)], args := [d1, d2] }
  | _ => none }
def AlignmentTurnsWrongFalsely : Prop := alignmentTurnsRow.holds Try.pinned (OpenSpec.ofChange alignmentTurnsWrong)

/-- 'obeluslaw30.AlignmentSimilar': WHATEVER THE INPUT: true; the input reads as it did. -/
def alignmentSimilarSpec : ChangeSpec := { name := "alignmentSimilar", fn := fun _ => fun
  | [d] => { results := [.lit (.bool true)], args := [d] }
  | _ => none }
def alignmentSimilarRow : OpenClaim := { program := "ytbpegoekjlehcaa", sum := "e8eb9f40cf9cb4564a1e08758a3cdb0dc0070f096033272dff14d6c90385965e", func := "obelus/obeluslaw30.AlignmentSimilar", spec := "alignmentSimilar", apart := false }
def AlignmentSimilarSaid : Prop := alignmentSimilarRow.holds Try.pinned (OpenSpec.ofChange alignmentSimilarSpec)

/-- ITS FALSE NEIGHBOUR: 'it returns false'. Refute it at one input. -/
def alignmentSimilarWrong : ChangeSpec := { name := "alignmentSimilar", fn := fun _ => fun
  | [d] => { results := [.lit (.bool false)], args := [d] }
  | _ => none }
def AlignmentSimilarWrongFalsely : Prop := alignmentSimilarRow.holds Try.pinned (OpenSpec.ofChange alignmentSimilarWrong)

/-- 'obeluslaw30.AlignmentPrefixes': WHATEVER THE INPUT: true; the input reads as it did. -/
def alignmentPrefixesSpec : ChangeSpec := { name := "alignmentPrefixes", fn := fun _ => fun
  | [d1, d2, d3] => { results := [.lit (.bool true)], args := [d1, d2, d3] }
  | _ => none }
def alignmentPrefixesRow : OpenClaim := { program := "ytbpegoekjlehcaa", sum := "e8eb9f40cf9cb4564a1e08758a3cdb0dc0070f096033272dff14d6c90385965e", func := "obelus/obeluslaw30.AlignmentPrefixes", spec := "alignmentPrefixes", apart := false }
def AlignmentPrefixesSaid : Prop := alignmentPrefixesRow.holds Try.pinned (OpenSpec.ofChange alignmentPrefixesSpec)

/-- ITS FALSE NEIGHBOUR: 'it returns false'. Refute it at one input. -/
def alignmentPrefixesWrong : ChangeSpec := { name := "alignmentPrefixes", fn := fun _ => fun
  | [d1, d2, d3] => { results := [.lit (.bool false)], args := [d1, d2, d3] }
  | _ => none }
def AlignmentPrefixesWrongFalsely : Prop := alignmentPrefixesRow.holds Try.pinned (OpenSpec.ofChange alignmentPrefixesWrong)

/-- 'obeluslaw30.AlignmentLimits': WHATEVER THE INPUT: true; the input reads as it did. -/
def alignmentLimitsSpec : ChangeSpec := { name := "alignmentLimits", fn := fun _ => fun
  | [d1, d2] => { results := [.lit (.bool true)], args := [d1, d2] }
  | _ => none }
def alignmentLimitsRow : OpenClaim := { program := "ytbpegoekjlehcaa", sum := "e8eb9f40cf9cb4564a1e08758a3cdb0dc0070f096033272dff14d6c90385965e", func := "obelus/obeluslaw30.AlignmentLimits", spec := "alignmentLimits", apart := false }
def AlignmentLimitsSaid : Prop := alignmentLimitsRow.holds Try.pinned (OpenSpec.ofChange alignmentLimitsSpec)

/-- ITS FALSE NEIGHBOUR: 'it returns false'. Refute it at one input. -/
def alignmentLimitsWrong : ChangeSpec := { name := "alignmentLimits", fn := fun _ => fun
  | [d1, d2] => { results := [.lit (.bool false)], args := [d1, d2] }
  | _ => none }
def AlignmentLimitsWrongFalsely : Prop := alignmentLimitsRow.holds Try.pinned (OpenSpec.ofChange alignmentLimitsWrong)

/-- 'obeluslaw30.AlignmentChecks': WHATEVER THE INPUT: true; the input reads as it did. -/
def alignmentChecksSpec : ChangeSpec := { name := "alignmentChecks", fn := fun _ => fun
  | [d1, d2] => { results := [.lit (.bool true)], args := [d1, d2] }
  | _ => none }
def alignmentChecksRow : OpenClaim := { program := "ytbpegoekjlehcaa", sum := "e8eb9f40cf9cb4564a1e08758a3cdb0dc0070f096033272dff14d6c90385965e", func := "obelus/obeluslaw30.AlignmentChecks", spec := "alignmentChecks", apart := false }
def AlignmentChecksSaid : Prop := alignmentChecksRow.holds Try.pinned (OpenSpec.ofChange alignmentChecksSpec)

/-- ITS FALSE NEIGHBOUR: 'it returns false'. Refute it at one input. -/
def alignmentChecksWrong : ChangeSpec := { name := "alignmentChecks", fn := fun _ => fun
  | [d1, d2] => { results := [.lit (.bool false)], args := [d1, d2] }
  | _ => none }
def AlignmentChecksWrongFalsely : Prop := alignmentChecksRow.holds Try.pinned (OpenSpec.ofChange alignmentChecksWrong)

/-- 'obeluslaw30.AlignmentRegions': WHATEVER THE INPUT: true; the input reads as it did. -/
def alignmentRegionsSpec : ChangeSpec := { name := "alignmentRegions", fn := fun _ => fun
  | [d1, d2] => { results := [.lit (.bool true)], args := [d1, d2] }
  | _ => none }
def alignmentRegionsRow : OpenClaim := { program := "ytbpegoekjlehcaa", sum := "e8eb9f40cf9cb4564a1e08758a3cdb0dc0070f096033272dff14d6c90385965e", func := "obelus/obeluslaw30.AlignmentRegions", spec := "alignmentRegions", unfollowed := true, recurses := true, apart := false }
def AlignmentRegionsSaid : Prop := alignmentRegionsRow.holds Try.pinned (OpenSpec.ofChange alignmentRegionsSpec)

/-- ITS FALSE NEIGHBOUR: 'it returns false'. Refute it at one input. -/
def alignmentRegionsWrong : ChangeSpec := { name := "alignmentRegions", fn := fun _ => fun
  | [d1, d2] => { results := [.lit (.bool false)], args := [d1, d2] }
  | _ => none }
def AlignmentRegionsWrongFalsely : Prop := alignmentRegionsRow.holds Try.pinned (OpenSpec.ofChange alignmentRegionsWrong)

/-- 'obeluslaw30.AlignmentScores': WHATEVER THE INPUT: true; the input reads as it did. -/
def alignmentScoresSpec : ChangeSpec := { name := "alignmentScores", fn := fun _ => fun
  | [d1, d2, d3] => { results := [.lit (.bool true)], args := [d1, d2, d3] }
  | _ => none }
def alignmentScoresRow : OpenClaim := { program := "ytbpegoekjlehcaa", sum := "e8eb9f40cf9cb4564a1e08758a3cdb0dc0070f096033272dff14d6c90385965e", func := "obelus/obeluslaw30.AlignmentScores", spec := "alignmentScores", unfollowed := true, recurses := true, apart := false }
def AlignmentScoresSaid : Prop := alignmentScoresRow.holds Try.pinned (OpenSpec.ofChange alignmentScoresSpec)

/-- ITS FALSE NEIGHBOUR: 'it returns false'. Refute it at one input. -/
def alignmentScoresWrong : ChangeSpec := { name := "alignmentScores", fn := fun _ => fun
  | [d1, d2, d3] => { results := [.lit (.bool false)], args := [d1, d2, d3] }
  | _ => none }
def AlignmentScoresWrongFalsely : Prop := alignmentScoresRow.holds Try.pinned (OpenSpec.ofChange alignmentScoresWrong)

/- THE SECOND FORM. 'bulk': how many values and letters a reading holds, each counted each time it is reached (what is shared counts as often as it is met; a slice's spare places count too). A statement '..UptoSaid' is the law's where the arguments, and the package variables that the reading takes, are together of bulk at most 1048576: NARROWER than '..Said'. Prove '..Said' where nothing that the law and all that it calls make is longer than what came in: it says more and counts as full. Else prove '..UptoSaid'. A law counts once. -/
mutual
def uptoBulk {H : Type} : DataW H → Nat
  | .lit (.string bytes) => bytes.length + 1
  | .lit _ => 1
  | .nil => 1
  | .ptr d => uptoBulk d + 1
  | .slice elems spare => uptoBulkAll elems + uptoBulkAll spare + 1
  | .agg parts => uptoBulkAll parts + 1
  | .iface _ d => uptoBulk d + 1
  | .map entries => uptoBulkEntries entries + 1
  | .held _ => 1
def uptoBulkAll {H : Type} : List (DataW H) → Nat
  | [] => 0
  | d :: r => uptoBulk d + uptoBulkAll r
def uptoBulkEntries {H : Type} : List (Lit × DataW H) → Nat
  | [] => 0
  | x :: r => uptoBulkEntry x + uptoBulkEntries r
def uptoBulkEntry {H : Type} : Lit × DataW H → Nat
  | (.string bytes, d) => bytes.length + uptoBulk d + 1
  | (_, d) => uptoBulk d + 1
 end
def uptoSmall : (H : Type) → List (DataW H) → Bool := fun _ ds => decide (uptoBulkAll ds ≤ 1048576)
def OpenSpec.upto (s : _root_.Go.ChangeSpec) : _root_.Go.OpenSpec := { _root_.Go.OpenSpec.ofChange s with cond := some uptoSmall }

/-- 'obeluslaw30.AlignmentAligns', WHERE WHAT IT READS IS OF BULK AT MOST 1048576: true; the input reads as it did. -/
def alignmentAlignsUptoRow : OpenClaim := { program := "ytbpegoekjlehcaa", sum := "e8eb9f40cf9cb4564a1e08758a3cdb0dc0070f096033272dff14d6c90385965e", func := "obelus/obeluslaw30.AlignmentAligns", spec := "alignmentAligns", apart := false, narrowed := true }
def AlignmentAlignsUptoSaid : Prop := alignmentAlignsUptoRow.holds Try.pinned (OpenSpec.upto alignmentAlignsSpec)

/-- 'obeluslaw30.AlignmentOptimal', WHERE WHAT IT READS IS OF BULK AT MOST 1048576: true; the input reads as it did. -/
def alignmentOptimalUptoRow : OpenClaim := { program := "ytbpegoekjlehcaa", sum := "e8eb9f40cf9cb4564a1e08758a3cdb0dc0070f096033272dff14d6c90385965e", func := "obelus/obeluslaw30.AlignmentOptimal", spec := "alignmentOptimal", apart := false, narrowed := true }
def AlignmentOptimalUptoSaid : Prop := alignmentOptimalUptoRow.holds Try.pinned (OpenSpec.upto alignmentOptimalSpec)

/-- 'obeluslaw30.AlignmentTurns', WHERE WHAT IT READS IS OF BULK AT MOST 1048576: true; the input reads as it did. -/
def alignmentTurnsUptoRow : OpenClaim := { program := "ytbpegoekjlehcaa", sum := "e8eb9f40cf9cb4564a1e08758a3cdb0dc0070f096033272dff14d6c90385965e", func := "obelus/obeluslaw30.AlignmentTurns", spec := "alignmentTurns", apart := false, narrowed := true }
def AlignmentTurnsUptoSaid : Prop := alignmentTurnsUptoRow.holds Try.pinned (OpenSpec.upto alignmentTurnsSpec)

/-- 'obeluslaw30.AlignmentSimilar', WHERE WHAT IT READS IS OF BULK AT MOST 1048576: true; the input reads as it did. -/
def alignmentSimilarUptoRow : OpenClaim := { program := "ytbpegoekjlehcaa", sum := "e8eb9f40cf9cb4564a1e08758a3cdb0dc0070f096033272dff14d6c90385965e", func := "obelus/obeluslaw30.AlignmentSimilar", spec := "alignmentSimilar", apart := false, narrowed := true }
def AlignmentSimilarUptoSaid : Prop := alignmentSimilarUptoRow.holds Try.pinned (OpenSpec.upto alignmentSimilarSpec)

/-- 'obeluslaw30.AlignmentPrefixes', WHERE WHAT IT READS IS OF BULK AT MOST 1048576: true; the input reads as it did. -/
def alignmentPrefixesUptoRow : OpenClaim := { program := "ytbpegoekjlehcaa", sum := "e8eb9f40cf9cb4564a1e08758a3cdb0dc0070f096033272dff14d6c90385965e", func := "obelus/obeluslaw30.AlignmentPrefixes", spec := "alignmentPrefixes", apart := false, narrowed := true }
def AlignmentPrefixesUptoSaid : Prop := alignmentPrefixesUptoRow.holds Try.pinned (OpenSpec.upto alignmentPrefixesSpec)

/-- 'obeluslaw30.AlignmentLimits', WHERE WHAT IT READS IS OF BULK AT MOST 1048576: true; the input reads as it did. -/
def alignmentLimitsUptoRow : OpenClaim := { program := "ytbpegoekjlehcaa", sum := "e8eb9f40cf9cb4564a1e08758a3cdb0dc0070f096033272dff14d6c90385965e", func := "obelus/obeluslaw30.AlignmentLimits", spec := "alignmentLimits", apart := false, narrowed := true }
def AlignmentLimitsUptoSaid : Prop := alignmentLimitsUptoRow.holds Try.pinned (OpenSpec.upto alignmentLimitsSpec)

/-- 'obeluslaw30.AlignmentChecks', WHERE WHAT IT READS IS OF BULK AT MOST 1048576: true; the input reads as it did. -/
def alignmentChecksUptoRow : OpenClaim := { program := "ytbpegoekjlehcaa", sum := "e8eb9f40cf9cb4564a1e08758a3cdb0dc0070f096033272dff14d6c90385965e", func := "obelus/obeluslaw30.AlignmentChecks", spec := "alignmentChecks", apart := false, narrowed := true }
def AlignmentChecksUptoSaid : Prop := alignmentChecksUptoRow.holds Try.pinned (OpenSpec.upto alignmentChecksSpec)

/-- 'obeluslaw30.AlignmentRegions', WHERE WHAT IT READS IS OF BULK AT MOST 1048576: true; the input reads as it did. -/
def alignmentRegionsUptoRow : OpenClaim := { program := "ytbpegoekjlehcaa", sum := "e8eb9f40cf9cb4564a1e08758a3cdb0dc0070f096033272dff14d6c90385965e", func := "obelus/obeluslaw30.AlignmentRegions", spec := "alignmentRegions", unfollowed := true, recurses := true, apart := false, narrowed := true }
def AlignmentRegionsUptoSaid : Prop := alignmentRegionsUptoRow.holds Try.pinned (OpenSpec.upto alignmentRegionsSpec)

/-- 'obeluslaw30.AlignmentScores', WHERE WHAT IT READS IS OF BULK AT MOST 1048576: true; the input reads as it did. -/
def alignmentScoresUptoRow : OpenClaim := { program := "ytbpegoekjlehcaa", sum := "e8eb9f40cf9cb4564a1e08758a3cdb0dc0070f096033272dff14d6c90385965e", func := "obelus/obeluslaw30.AlignmentScores", spec := "alignmentScores", unfollowed := true, recurses := true, apart := false, narrowed := true }
def AlignmentScoresUptoSaid : Prop := alignmentScoresUptoRow.holds Try.pinned (OpenSpec.upto alignmentScoresSpec)

end Rows
end Go.Proofs.Ytbpegoekjlehcaa
