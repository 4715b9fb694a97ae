/- Walk: AlignmentChecks. -/
import Derived.Test.YtbpegoekjlehcaaL1
import Derived.Test.YtbpegoekjlehcaaW14
namespace Go.Proofs.Ytbpegoekjlehcaa
open Go.RowKit

set_option maxRecDepth 100000 in
set_option maxHeartbeats 4000000 in
theorem checks_any (va vb vp : Value) (a b p : List Tok) (w : World) (ha : Toks w w.heap.size va a) (hb : Toks w w.heap.size vb b) (hp : Toks w w.heap.size vp p) :
    Calls Try.prog 9 #[.agg #[va, vb], vp] w fun e w' => e = .returned (.bool true) ∧ Below w.heap.size w w' := by
  obtain ⟨A, n, m, c, rfl, ha', hm, hml, hcutA⟩ := cut_tok ha
  obtain ⟨A2, n2, m2, c2, rfl, hb', hm2, hml2, hcutB⟩ := cut_tok hb
  obtain ⟨A3, c3, rfl, hn3, hc3, _⟩ := id hp
  obtain ⟨m3, hm3⟩ : ∃ k, k = min p.length 40 := ⟨_, rfl⟩
  have hp' := hp.take 40 A3 p.length c3 rfl
  rw [← hm3] at hp'
  obtain ⟨a', hae⟩ : ∃ a', a' = a.take 40 := ⟨_, rfl⟩
  obtain ⟨b', hbe⟩ : ∃ b', b' = b.take 40 := ⟨_, rfl⟩
  obtain ⟨p', hpe⟩ : ∃ p', p' = p.take 40 := ⟨_, rfl⟩
  obtain ⟨n3, hn3e⟩ : ∃ n, n = p.length := ⟨_, rfl⟩
  rw [← hae] at ha' hml
  rw [← hbe] at hb' hml2
  rw [← hpe] at hp'
  rw [← hn3e] at hm3 hn3 ⊢
  clear hae hbe hpe ha hb hp hn3e
  have HA := Lib.hid hcutA
  have HB := Lib.hid hcutB
  have HM := Lib.hid hml
  have HM2 := Lib.hid hml2
  clear hcutA hcutB hml hml2
  have hbA : Below w.heap.size w (w.alloc (.cells #[.slice A n c, .slice A2 n2 c2] 24)) := (Below.refl _ _).alloc (Nat.le_refl _) _
  have hc3m : c3 ≤ 9223372036854775807 := by unfold maxLen at hc3; omega
  have hmc3 : m3 ≤ c3 := by omega
  have hminI : min (n3 : Int) 40 = (m3 : Int) := by omega
  clear hm3
  by_cases h0 : bothL a' b' = 0
  · have HB0 := Lib.hid h0
    have HLP : Hid (lpairsL a' b' p' = pairsL a' b' p') := Lib.hid (by unfold lpairsL; rw [if_neg (by simp [h0])])
    clear h0
    go_enter Try.func9, Try.ntmps9
    go_wp2_with fail
    go_quiet (first | (go_at_call 12; exact quiet_left (HA.out _)) | (go_at_call 12; exact quiet_left (HB.out _)))
    go_wp2_with fail
    all_goals
      first
        | (have e3 : m3 = n3 := by omega
           rw [e3] at hp')
        | (have e3 : m3 = 40 := by omega
           rw [e3] at hp')
      have hbQ := below_drewN hbA nq
      have ha1 := (ha'.below hbQ).more hbQ.size
      have hb1 := (hb'.below hbQ).more hbQ.size
      have hp1 := (hp'.below hbQ).more hbQ.size
      refine (lboth_any _ _ a' b' _ ha1 hb1).mono ?_
      rw [HB0.out]
      rintro e w1 ⟨rfl, hk⟩
      have hb2 := hbQ.trans (hk.mono hbQ.size)
      have ha2 := ha1.over hk
      have hb2' := hb1.over hk
      have hp2 := hp1.over hk
      clear hbA hbQ ha1 hb1 hp1 hk
      go_wp2_with fail
      refine (checkPairs_any _ _ _ a' b' p' _ ha2 hb2' hp2).mono ?_
      rintro e w2 ⟨rfl, hk⟩
      have hb3 := hb2.trans (hk.mono hb2.size)
      have ha3 := ha2.over hk
      have hb3' := hb2'.over hk
      have hp3 := hp2.over hk
      clear hb2 ha2 hb2' hp2 hk
      go_wp2_with fail
      refine (known_any _).mono ?_
      rintro e w4 ⟨rfl, hk⟩
      have hb4 := hb3.trans (hk.mono hb3.size)
      have ha4 := ha3.over hk
      have hb4' := hb3'.over hk
      have hp4 := hp3.over hk
      clear hb3 ha3 hb3' hp3 hk
      go_wp2_with fail
      refine (check_any _ a' _ ha4).mono ?_
      rintro e w5 ⟨rfl, hk⟩
      have hb5 := hb4.trans (hk.mono hb4.size)
      have ha5 := ha4.over hk
      have hb5' := hb4'.over hk
      have hp5 := hp4.over hk
      clear hb4 ha4 hb4' hp4 hk
      go_wp2_with fail
      refine (lcheck_any _ a' _ ha5).mono ?_
      rintro e w6 ⟨rfl, hk⟩
      have hb6 := hb5.trans (hk.mono hb5.size)
      have ha6 := ha5.over hk
      have hb6' := hb5'.over hk
      have hp6 := hp5.over hk
      clear hb5 ha5 hb5' hp5 hk
      go_wp2_with fail
      refine (check_any _ b' _ hb6').mono ?_
      rintro e w7 ⟨rfl, hk⟩
      have hb7 := hb6.trans (hk.mono hb6.size)
      have ha7 := ha6.over hk
      have hb7' := hb6'.over hk
      have hp7 := hp6.over hk
      clear hb6 ha6 hb6' hp6 hk
      go_wp2_with fail
      refine (lcheck_any _ b' _ hb7').mono ?_
      rintro e w8 ⟨rfl, hk⟩
      have hb8 := hb7.trans (hk.mono hb7.size)
      have ha8 := ha7.over hk
      have hb8' := hb7'.over hk
      have hp8 := hp7.over hk
      clear hb7 ha7 hb7' hp7 hk
      go_wp2_with fail
      refine (lpairs_any _ _ _ a' b' p' _ ha8 hb8' hp8).mono ?_
      rw [HLP.out]
      rintro e w9 ⟨rfl, hk⟩
      have hb9 := hb8.trans (hk.mono hb8.size)
      have ha9 := ha8.over hk
      have hb9' := hb8'.over hk
      have hp9 := hp8.over hk
      clear hb8 ha8 hb8' hp8 hk
      go_wp2_with fail
      go_ret
      exact ⟨rfl, hb9⟩
  · have hb0' : (bothL a' b' == 0) = false := by simp [h0]
    have HLP : Hid (lpairsL a' b' p' = bothL a' b') := Lib.hid (by unfold lpairsL; rw [if_pos h0])
    clear h0
    go_enter Try.func9, Try.ntmps9
    go_wp2_with fail
    go_quiet (first | (go_at_call 12; exact quiet_left (HA.out _)) | (go_at_call 12; exact quiet_left (HB.out _)))
    go_wp2_with fail
    all_goals
      first
        | (have e3 : m3 = n3 := by omega
           rw [e3] at hp')
        | (have e3 : m3 = 40 := by omega
           rw [e3] at hp')
      have hbQ := below_drewN hbA nq
      have ha1 := (ha'.below hbQ).more hbQ.size
      have hb1 := (hb'.below hbQ).more hbQ.size
      have hp1 := (hp'.below hbQ).more hbQ.size
      refine (lboth_any _ _ a' b' _ ha1 hb1).mono ?_
      rintro e w1 ⟨rfl, hk⟩
      have hb2 := hbQ.trans (hk.mono hbQ.size)
      have ha2 := ha1.over hk
      have hb2' := hb1.over hk
      have hp2 := hp1.over hk
      clear hbA hbQ ha1 hb1 hp1 hk
      go_wp2_with fail
      have hb3 := hb2
      have ha3 := ha2
      have hb3' := hb2'
      have hp3 := hp2
      clear hb2 ha2 hb2' hp2
      refine (known_any _).mono ?_
      rintro e w4 ⟨rfl, hk⟩
      have hb4 := hb3.trans (hk.mono hb3.size)
      have ha4 := ha3.over hk
      have hb4' := hb3'.over hk
      have hp4 := hp3.over hk
      clear hb3 ha3 hb3' hp3 hk
      go_wp2_with fail
      refine (check_any _ a' _ ha4).mono ?_
      rintro e w5 ⟨rfl, hk⟩
      have hb5 := hb4.trans (hk.mono hb4.size)
      have ha5 := ha4.over hk
      have hb5' := hb4'.over hk
      have hp5 := hp4.over hk
      clear hb4 ha4 hb4' hp4 hk
      go_wp2_with fail
      refine (lcheck_any _ a' _ ha5).mono ?_
      rintro e w6 ⟨rfl, hk⟩
      have hb6 := hb5.trans (hk.mono hb5.size)
      have ha6 := ha5.over hk
      have hb6' := hb5'.over hk
      have hp6 := hp5.over hk
      clear hb5 ha5 hb5' hp5 hk
      go_wp2_with fail
      refine (check_any _ b' _ hb6').mono ?_
      rintro e w7 ⟨rfl, hk⟩
      have hb7 := hb6.trans (hk.mono hb6.size)
      have ha7 := ha6.over hk
      have hb7' := hb6'.over hk
      have hp7 := hp6.over hk
      clear hb6 ha6 hb6' hp6 hk
      go_wp2_with fail
      refine (lcheck_any _ b' _ hb7').mono ?_
      rintro e w8 ⟨rfl, hk⟩
      have hb8 := hb7.trans (hk.mono hb7.size)
      have ha8 := ha7.over hk
      have hb8' := hb7'.over hk
      have hp8 := hp7.over hk
      clear hb7 ha7 hb7' hp7 hk
      go_wp2_with fail
      refine (lpairs_any _ _ _ a' b' p' _ ha8 hb8' hp8).mono ?_
      rw [HLP.out]
      rintro e w9 ⟨rfl, hk⟩
      have hb9 := hb8.trans (hk.mono hb8.size)
      have ha9 := ha8.over hk
      have hb9' := hb8'.over hk
      have hp9 := hp8.over hk
      clear hb8 ha8 hb8' hp8 hk
      go_wp2_with fail
      go_ret
      exact ⟨rfl, hb9⟩
end Go.Proofs.Ytbpegoekjlehcaa
