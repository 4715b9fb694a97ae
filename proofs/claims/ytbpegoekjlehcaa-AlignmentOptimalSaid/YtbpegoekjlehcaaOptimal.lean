/- Walk: AlignmentOptimal. -/
import Derived.Test.YtbpegoekjlehcaaL1
namespace Go.Proofs.Ytbpegoekjlehcaa
open Go.RowKit

set_option maxRecDepth 100000 in
set_option maxHeartbeats 4000000 in
theorem optimal_any (va vb vc : Value) (a b : List Tok) (cs : List Nat) (gp : Nat) (hgp : gp ≤ 65535) (w : World) (ha : Toks w w.heap.size va a) (hb : Toks w w.heap.size vb b) (hc : Byts w w.heap.size vc cs) :
    Calls Try.prog 4 #[.agg #[va, vb], .int .u16 gp, vc] w fun e w' => e = .returned (.bool true) ∧ Below w.heap.size w w' := by
  obtain ⟨A, n, m, c, rfl, ha', hm, hml, hcutA⟩ := cut_tok ha
  obtain ⟨A2, n2, m2, c2, rfl, hb', hm2, hml2, hcutB⟩ := cut_tok hb
  obtain ⟨a', hae⟩ : ∃ a', a' = a.take 40 := ⟨_, rfl⟩
  obtain ⟨b', hbe⟩ : ∃ b', b' = b.take 40 := ⟨_, rfl⟩
  rw [← hae] at ha' hml
  rw [← hbe] at hb' hml2
  clear hae hbe ha hb
  have HA := Lib.hid hcutA
  have HB := Lib.hid hcutB
  have HM := Lib.hid hml
  have HM2 := Lib.hid hml2
  clear hcutA hcutB hml hml2
  have hbA : Below w.heap.size w (w.alloc (.cells #[.slice A n c, .slice A2 n2 c2] 24)) := (Below.refl _ _).alloc (Nat.le_refl _) _
  by_cases h0 : bothL a' b' = 0
  · have hb0 : (bothL a' b' != 0) = false := by simp [h0]
    obtain ⟨f1, f2, f3, f4⟩ := bothL_zero h0
    obtain ⟨G, hG⟩ : ∃ G : Nat, G = gp % 1001 := ⟨_, rfl⟩
    have hG1 : (0 : Int) ≤ (G : Int) ∧ (G : Int) ≤ 1000 := by omega
    have hGI : (gp : Int) % 1001 = (G : Int) := by omega
    have hGw : wrap64 (G : Int) = (G : Int) := by unfold wrap64; omega
    have hgl : gapL (G : Int) = 0 := by unfold gapL; rw [if_neg (by omega)]
    have HBest : Hid (bestL a' b' G = (oT G a' b' 0 0 0, 0)) := Lib.hid (by unfold bestL; rw [if_neg (by simp [h0]), if_neg (by simp [hgl])])
    have HAlg : Hid (alignR a' b' G = alignL a' b' G) := Lib.hid (by unfold alignR; rw [HBest.out, if_pos rfl])
    have hv := align_valid (g := (G : Int)) (a := a') (b := b')
    have HV := Lib.hid hv
    have HPS := Lib.hid (pairsL_valid hv)
    have HSC := Lib.hid (align_score (g := (G : Int)) (a := a') (b := b'))
    have hal40 : a'.length ≤ 40 := by have := HM.out; omega
    have hbl40 : b'.length ≤ 40 := by have := HM2.out; omega
    have hpl : (alignL a' b' G).length ≤ 4096 := by have := hv.length (Nat.zero_le _); omega
    have HPL := Lib.hid hpl
    obtain ⟨A3, c3, rfl, hn3, hc3, _⟩ := id hc
    obtain ⟨k3, hk3⟩ : ∃ k3, k3 = min cs.length 100 := ⟨_, rfl⟩
    have hc' := hc.take 100 A3 cs.length c3 rfl
    rw [← hk3] at hc'
    have HCS := Lib.hid hc'
    have hk3c : k3 ≤ c3 := by omega
    have hc3m : c3 ≤ 9223372036854775807 := by unfold maxLen at hc3; omega
    have hminI : min (cs.length : Int) 100 = (k3 : Int) := by omega
    have hvc := chosen_valid (a := a') (b := b') (cs.take 100) 0 0
    have HVC := Lib.hid hvc
    obtain ⟨sc, hsc⟩ : ∃ sc, sc = scoreL a' b' G (chosenF a' b' (cs.take 100) 0 0) := ⟨_, rfl⟩
    obtain ⟨bs, hbs⟩ : ∃ bs, bs = oT G a' b' 0 0 0 := ⟨_, rfl⟩
    have hle : sc ≤ bs := by rw [hsc, hbs]; exact valid_le hG1.1 f1 f2 hvc
    have HCL := Lib.hid (hvc.length (Nat.zero_le _))
    rw [← hbs] at HBest HSC
    have HSCE := Lib.hid hsc
    have hg31 := hG1.1
    have hg32 := hG1.2
    clear h0 hG hv hpl hc' hk3 hvc hsc hbs hc hG1 hgl
    have HF := Lib.hid (And.intro f1 f2)
    clear f1 f2
    go_enter Try.func4, Try.ntmps4
    go_wp2_with fail
    go_quiet (first | (go_at_call 12; exact quiet_left (HA.out _)) | (go_at_call 12; exact quiet_left (HB.out _)))
    go_wp2_with fail
    have hbQ := below_drewN hbA nq
    have ha1 := ha'.below hbQ
    have hb1 := hb'.below hbQ
    have hc1 := HCS.out.below hbQ
    refine (known_any _).mono ?_
    rintro e w1 ⟨rfl, hk⟩
    have hb2 := hbQ.trans (hk.mono hbQ.size)
    have ha2 := (ha'.below hb2).more hb2.size
    have hb2' := (hb'.below hb2).more hb2.size
    have hc2 := (HCS.out.below hb2).more hb2.size
    clear hbA hbQ ha1 hb1 hc1 hk HCS
    go_wp2_with fail
    refine (lboth_any _ _ a' b' w1 ha2 hb2').mono ?_
    rintro e w2 ⟨rfl, hk⟩
    have hb3 := hb2.trans (hk.mono hb2.size)
    have ha3 := ha2.over hk
    have hb3' := hb2'.over hk
    have hc3' := hc2.over hk
    clear hb2 ha2 hb2' hc2 hk
    go_wp2_with fail
    refine (best_any _ _ a' b' G w2 ha3 hb3').mono ?_
    rw [HBest.out]
    rintro e w3 ⟨rfl, hk⟩
    have hb4 := hb3.trans (hk.mono hb3.size)
    have ha4 := ha3.over hk
    have hb4' := hb3'.over hk
    have hc4 := hc3'.over hk
    clear hb3 ha3 hb3' hc3' hk
    go_wp2_with fail
    refine (align_any _ _ a' b' G w3 ha4 hb4').mono ?_
    rw [HBest.out, HAlg.out]
    rintro e w4 ⟨v4, rfl, hown, hk⟩
    have hb5 := hb4.trans (hk.mono hb4.size)
    have ha5 := ha4.over hk
    have hb5' := hb4'.over hk
    have hc5 := hc4.over hk
    have hp5 := hown.sl encT_length
    clear hb4 ha4 hb4' hc4 hk hown
    go_wp2_with fail
    refine (checkPairs_any _ _ _ a' b' _ w4 ha5 hb5' hp5).mono ?_
    rw [HPS.out]
    rintro e w5 ⟨rfl, hk⟩
    have hb6 := hb5.trans (hk.mono hb5.size)
    have ha6 := ha5.over hk
    have hb6' := hb5'.over hk
    have hc6 := hc5.over hk
    have hp6 := hp5.over hk
    clear hb5 ha5 hb5' hc5 hp5 hk
    go_wp2_with fail
    refine (score_any _ _ _ a' b' _ G w5 ha6 hb6' hp6 HF.out.1 HF.out.2 HV.out.inR HPL.out (by omega) (by omega) hg31 hg32).mono ?_
    rw [HSC.out]
    rintro e w6 ⟨rfl, hk⟩
    have hb7 := hb6.trans (hk.mono hb6.size)
    have ha7 := ha6.over hk
    have hb7' := hb6'.over hk
    have hc7 := hc6.over hk
    clear hb6 ha6 hb6' hc6 hp6 hk
    go_wp2_with fail
    all_goals
      first
        | (have e3 : k3 = cs.length := by omega
           rw [e3] at hc7)
        | (have e3 : k3 = 100 := by omega
           rw [e3] at hc7)
      refine (chosen_any _ _ _ a' b' (cs.take 100) w6 ha7 hb7' hc7 (by omega) (by omega) (by rw [List.length_take]; omega)).mono ?_
      rintro e w7 ⟨v7, rfl, hown, hk⟩
      have hb8 := hb7.trans (hk.mono hb7.size)
      have ha8 := ha7.over hk
      have hb8' := hb7'.over hk
      have hp8 := hown.sl encT_length
      clear hb7 ha7 hb7' hc7 hk hown
      go_wp2_with fail
      refine (score_any _ _ _ a' b' _ G w7 ha8 hb8' hp8 HF.out.1 HF.out.2 HVC.out.inR (by have := HCL.out; omega) (by omega) (by omega) hg31 hg32).mono ?_
      rw [← HSCE.out]
      rintro e w8 ⟨rfl, hk⟩
      have hb9 := hb8.trans (hk.mono hb8.size)
      clear hb8 ha8 hb8' hp8 hk
      go_wp2_with fail
      go_ret
      exact ⟨rfl, hb9⟩
  · have hb0 : (bothL a' b' != 0) = true := by simp [h0]
    clear h0
    go_enter Try.func4, Try.ntmps4
    go_wp2_with fail
    go_quiet (first | (go_at_call 12; exact quiet_left (HA.out _)) | (go_at_call 12; exact quiet_left (HB.out _)))
    go_wp2_with fail
    have hbQ := below_drewN hbA nq
    refine (known_any _).mono ?_
    rintro e w1 ⟨rfl, hk⟩
    have hb2 := hbQ.trans (hk.mono hbQ.size)
    have ha2 := (ha'.below hb2).more hb2.size
    have hb2' := (hb'.below hb2).more hb2.size
    clear hbA hbQ hk
    go_wp2_with fail
    refine (lboth_any _ _ a' b' w1 ha2 hb2').mono ?_
    rintro e w2 ⟨rfl, hk⟩
    have hb3 := hb2.trans (hk.mono hb2.size)
    clear hb2 ha2 hb2' hk
    go_wp2_with fail
    refine (known_any _).mono ?_
    rintro e w3 ⟨rfl, hk⟩
    have hb4 := hb3.trans (hk.mono hb3.size)
    clear hb3 hk
    go_wp2_with fail
    go_ret
    exact ⟨rfl, hb4⟩

end Go.Proofs.Ytbpegoekjlehcaa
