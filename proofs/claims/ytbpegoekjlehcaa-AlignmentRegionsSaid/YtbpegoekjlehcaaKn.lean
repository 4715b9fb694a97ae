/- The chapter's examples, on the plain side. -/
import Derived.Test.YtbpegoekjlehcaaOpt
namespace Go.Proofs.Ytbpegoekjlehcaa

def wabc : List Tok := [(97, 1), (98, 1), (99, 1)]
def waxc : List Tok := [(97, 1), (120, 1), (99, 1)]
def wab : List Tok := [(97, 1), (98, 1)]
def wacab : List Tok := [(97, 1), (99, 1), (97, 1), (98, 1)]
def waba : List Tok := [(97, 1), (98, 1), (97, 1)]
def waca : List Tok := [(97, 1), (99, 1), (97, 1)]

theorem k1 : oT 1 wabc waxc 0 0 0 = 1 := by simp [oT, wabc, waxc, optC, best3, opn]
theorem k2 : alignL wab wacab 1 = [(0, 0), (1, 3)] := by simp [alignL, pathP, wab, wacab, optC, best3, opn]
theorem k3 : oT 5 waba waca 0 0 0 = -3 := by simp [oT, waba, waca, optC, best3, opn]
theorem k4 : oT 0 wabc waxc 0 0 0 = 2 := by simp [oT, wabc, waxc, optC, best3, opn]
theorem kb : bothL wabc waxc = 0 ∧ bothL wab wacab = 0 ∧ bothL waba waca = 0 := by decide
theorem kg : gapL 1 = 0 ∧ gapL 5 = 0 := by decide
theorem ks : sumL wabc = 3 ∧ sumL waxc = 3 := by decide
end Go.Proofs.Ytbpegoekjlehcaa
