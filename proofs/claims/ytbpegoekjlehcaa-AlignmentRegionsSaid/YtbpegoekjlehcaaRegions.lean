/- Walk: AlignmentRegions. -/
import Derived.Test.YtbpegoekjlehcaaRegB
import Derived.Test.YtbpegoekjlehcaaRegC
namespace Go.Proofs.Ytbpegoekjlehcaa
open Go.RowKit

set_option maxRecDepth 100000 in
set_option maxHeartbeats 1000000 in
theorem regions_any (va vb vp : Value) (a b p : List Tok) (w : World) (ha : Toks w w.heap.size va a) (hb : Toks w w.heap.size vb b) (hp : Toks w w.heap.size vp p) :
    Calls Try.prog 10 #[.agg #[va, vb], vp] w fun e w' => e = .returned (.bool true) ∧ Below w.heap.size w w' := by
  obtain ⟨A, n, m, c, rfl, ha', hm, hml, hcutA⟩ := cut_tok ha
  obtain ⟨A2, n2, m2, c2, rfl, hb', hm2, hml2, hcutB⟩ := cut_tok hb
  obtain ⟨A3, c3, rfl, hn3, hc3, _⟩ := id hp
  obtain ⟨m3, hm3⟩ : ∃ k, k = min p.length 40 := ⟨_, rfl⟩
  have hp' := hp.take 40 A3 p.length c3 rfl
  rw [← hm3] at hp'
  obtain ⟨a', hae⟩ : ∃ a', a' = a.take 40 := ⟨_, rfl⟩
  obtain ⟨b', hbe⟩ : ∃ b', b' = b.take 40 := ⟨_, rfl⟩
  obtain ⟨p', hpe⟩ : ∃ p', p' = p.take 40 := ⟨_, rfl⟩
  obtain ⟨n3, hn3e⟩ : ∃ n, n = p.length := ⟨_, rfl⟩
  rw [← hae] at ha' hml
  rw [← hbe] at hb' hml2
  rw [← hpe] at hp'
  rw [← hn3e] at hm3 hn3 ⊢
  clear hae hbe hpe ha hb hp hn3e
  have HA := Lib.hid hcutA
  have HB := Lib.hid hcutB
  have HM := Lib.hid hml
  have HM2 := Lib.hid hml2
  clear hcutA hcutB hml hml2
  have hc3m : c3 ≤ 9223372036854775807 := by unfold maxLen at hc3; omega
  have hmc3 : m3 ≤ c3 := by omega
  have hminI : min (n3 : Int) 40 = (m3 : Int) := by omega
  by_cases h0 : bothL a' b' = 0
  · by_cases h2 : pairsL a' b' p' = 0
    · rcases Nat.lt_or_ge 40 n3 with hc | hc
      · exact reg_ok2 A A2 A3 n m c n2 m2 c2 n3 m3 c3 a' b' p' w ha' hb' hp' hm hm2 HM HM2 HA HB hc3m hmc3 ⟨hc, by omega⟩ h0 h2
      · exact reg_ok1 A A2 A3 n m c n2 m2 c2 n3 m3 c3 a' b' p' w ha' hb' hp' hm hm2 HM HM2 HA HB hc3m hmc3 ⟨hc, by omega⟩ h0 h2
    · rcases Nat.lt_or_ge 40 n3 with hc | hc
      · exact reg_e12 A A2 A3 n m c n2 m2 c2 n3 m3 c3 a' b' p' w ha' hb' hp' hm hm2 HM HM2 HA HB hc3m hmc3 ⟨hc, by omega⟩ h0 h2
      · exact reg_e11 A A2 A3 n m c n2 m2 c2 n3 m3 c3 a' b' p' w ha' hb' hp' hm hm2 HM HM2 HA HB hc3m hmc3 ⟨hc, by omega⟩ h0 h2
  · rcases Nat.lt_or_ge 40 n3 with hc | hc
    · exact reg_e02 A A2 A3 n m c n2 m2 c2 n3 m3 c3 a' b' p' w ha' hb' hp' hm hm2 HM HM2 HA HB hc3m hmc3 ⟨hc, by omega⟩ h0
    · exact reg_e01 A A2 A3 n m c n2 m2 c2 n3 m3 c3 a' b' p' w ha' hb' hp' hm hm2 HM HM2 HA HB hc3m hmc3 ⟨hc, by omega⟩ h0
end Go.Proofs.Ytbpegoekjlehcaa
