/- Walk: AlignmentAligns. -/
import Derived.Test.YtbpegoekjlehcaaL1
import Derived.Test.YtbpegoekjlehcaaT4
namespace Go.Proofs.Ytbpegoekjlehcaa
open Go.RowKit

theorem bestL_err {a b : List Tok} {g : Int} : (bestL a b g).2 = if bothL a b ≠ 0 then bothL a b else gapL g := by
  unfold bestL
  by_cases h : bothL a b ≠ 0
  · rw [if_pos h, if_pos h]
  · rw [if_neg h, if_neg h]
    by_cases h' : gapL g ≠ 0
    · rw [if_pos h']
    · rw [if_neg h']
      have : gapL g = 0 := by omega
      rw [this]
theorem best_rightT {a b : List Tok} {G : Int} (h0 : bothL a b = 0) (hg : gapL G = 0) : (bestL a b G).1 = oT G a b 0 0 0 := by
  unfold bestL; rw [if_neg (by simp [h0]), if_neg (by simp [hg])]
theorem bestL_none {a b : List Tok} {g : Int} (h : (bestL a b g).2 ≠ 0) : (bestL a b g).1 = 0 := by
  unfold bestL at *
  by_cases h1 : bothL a b ≠ 0
  · rw [if_pos h1]
  · rw [if_neg h1] at h ⊢
    by_cases h2 : gapL g ≠ 0
    · rw [if_pos h2]
    · rw [if_neg h2] at h; exact absurd rfl h

set_option maxRecDepth 100000 in
set_option maxHeartbeats 4000000 in
theorem aligns_any (va vb : Value) (a b : List Tok) (g : Int) (w : World) (ha : Toks w w.heap.size va a) (hb : Toks w w.heap.size vb b) :
    Calls Try.prog 3 #[.agg #[va, vb], .int .i64 g] w fun e w' => e = .returned (.bool true) ∧ Below w.heap.size w w' := by
  obtain ⟨A, n, m, c, rfl, ha', hm, hml, hcutA⟩ := cut_tok ha
  obtain ⟨A2, n2, m2, c2, rfl, hb', hm2, hml2, hcutB⟩ := cut_tok hb
  obtain ⟨a', hae⟩ : ∃ a', a' = a.take 40 := ⟨_, rfl⟩
  obtain ⟨b', hbe⟩ : ∃ b', b' = b.take 40 := ⟨_, rfl⟩
  rw [← hae] at ha' hml
  rw [← hbe] at hb' hml2
  clear hae hbe ha hb
  have HA := Lib.hid hcutA
  have HB := Lib.hid hcutB
  have HM := Lib.hid hml
  have HM2 := Lib.hid hml2
  clear hcutA hcutB hml hml2
  have hbA : Below w.heap.size w (w.alloc (.cells #[.slice A n c, .slice A2 n2 c2] 24)) := (Below.refl _ _).alloc (Nat.le_refl _) _
  obtain ⟨er, her⟩ : ∃ er, er = (bestL a' b' g).2 := ⟨_, rfl⟩
  obtain ⟨bs, hbs⟩ : ∃ bs, bs = (bestL a' b' g).1 := ⟨_, rfl⟩
  have HE0 : Hid (bestL a' b' g = (bs, er)) := Lib.hid (by rw [her, hbs])
  have hee := bestL_err (a := a') (b := b') (g := g)
  rw [← her] at hee
  have HAlg : Hid (alignR a' b' g = if er = 0 then alignL a' b' g else []) := Lib.hid (by unfold alignR; rw [← her])
  have hnone : er ≠ 0 → bs = 0 := fun h => by rw [hbs]; exact bestL_none (by rw [← her]; exact h)
  clear her hbs
  by_cases h0 : bothL a' b' = 0
  · rw [if_neg (by simp [h0])] at hee
    have HB0 := Lib.hid h0
    obtain ⟨f1, f2, f3, f4⟩ := bothL_zero h0
    by_cases h1 : gapL g = 0
    · obtain ⟨hg1, hg2⟩ := gapL_zero h1
      rw [h1] at hee
      subst hee
      have HAl : Hid (alignR a' b' g = alignL a' b' g) := Lib.hid (by rw [HAlg.out]; simp)
      have hv := align_valid (g := g) (a := a') (b := b')
      have HV := Lib.hid hv
      have HSC : Hid (scoreL a' b' g (alignL a' b' g) = bs) := Lib.hid (by rw [align_score, ← best_rightT h0 h1, HE0.out])
      have hal40 : a'.length ≤ 40 := by have := HM.out; omega
      have hbl40 : b'.length ≤ 40 := by have := HM2.out; omega
      have hpl : (alignL a' b' g).length ≤ 4096 := by have := hv.length (Nat.zero_le _); omega
      have HPL := Lib.hid hpl
      have HF := Lib.hid (And.intro f1 f2)
      have hq1 : ¬ g < 0 := by omega
      have hq2 : ¬ 1000 < g := by omega
      clear h0 h1 hv f1 f2 hnone hpl
      go_enter Try.func3, Try.ntmps3
      go_wp2_with fail
      go_quiet (first | (go_at_call 12; exact quiet_left (HA.out _)) | (go_at_call 12; exact quiet_left (HB.out _)))
      go_wp2_with fail
      have hbQ := below_drewN hbA nq
      have ha1 := (ha'.below hbQ).more hbQ.size
      have hb1 := (hb'.below hbQ).more hbQ.size
      refine (align_any _ _ a' b' g _ ha1 hb1).mono ?_
      rw [HE0.out, HAl.out]
      rintro e w1 ⟨v1, rfl, hown, hk⟩
      have hb2 := hbQ.trans (hk.mono hbQ.size)
      have ha2 := ha1.over hk
      have hb2' := hb1.over hk
      have hp2 := hown.sl encT_length
      obtain ⟨P1, cp1, rfl, _⟩ := hp2.tok
      clear hbA hbQ ha1 hb1 hown hk
      go_wp2_with fail
      refine (best_any _ _ a' b' g w1 ha2 hb2').mono ?_
      rw [HE0.out]
      rintro e w2 ⟨rfl, hk⟩
      have hb3 := hb2.trans (hk.mono hb2.size)
      have ha3 := ha2.over hk
      have hb3' := hb2'.over hk
      have hp3 := hp2.over hk
      clear hb2 ha2 hb2' hp2 hk
      go_wp2_with fail
      refine (known_any _).mono ?_
      rintro e w3 ⟨rfl, hk⟩
      have hb4 := hb3.trans (hk.mono hb3.size)
      have ha4 := ha3.over hk
      have hb4' := hb3'.over hk
      have hp4 := hp3.over hk
      clear hb3 ha3 hb3' hp3 hk
      go_wp2_with fail
      refine (lboth_any _ _ a' b' w3 ha4 hb4').mono ?_
      rw [HB0.out]
      rintro e w4 ⟨rfl, hk⟩
      have hb5 := hb4.trans (hk.mono hb4.size)
      have ha5 := ha4.over hk
      have hb5' := hb4'.over hk
      have hp5 := hp4.over hk
      clear hb4 ha4 hb4' hp4 hk
      go_wp2_with fail
      refine (malign_any _ _ a' b' g w4 ha5 hb5' HF.out.1 HF.out.2 f3 f4 hg1 hg2).mono ?_
      rintro e w5 ⟨v5, rfl, hown, hk⟩
      have hb6 := hb5.trans (hk.mono hb5.size)
      have ha6 := ha5.over hk
      have hb6' := hb5'.over hk
      have hp6 := hp5.over hk
      have hr6 := hown.sl encT_length
      clear hb5 ha5 hb5' hp5 hown hk
      go_wp2_with fail
      refine (samePairs_any _ _ _ _ w5 hp6 hr6).mono ?_
      rintro e w6 ⟨rfl, hk⟩
      have hb7 := hb6.trans (hk.mono hb6.size)
      have ha7 := ha6.over hk
      have hb7' := hb6'.over hk
      have hr7 := hr6.over hk
      clear hb6 ha6 hb6' hp6 hr6 hk
      go_wp2_with fail
      refine (score_any _ _ _ a' b' _ g w6 ha7 hb7' hr7 HF.out.1 HF.out.2 HV.out.inR HPL.out (by omega) (by omega) hg1 hg2).mono ?_
      rw [HSC.out]
      rintro e w7 ⟨rfl, hk⟩
      have hb8 := hb7.trans (hk.mono hb7.size)
      clear hb7 ha7 hb7' hr7 hk
      go_wp2_with fail
      go_ret
      exact ⟨rfl, hb8⟩
    · have he2 : er = 2 := by
        rw [hee]; unfold gapL at *; split at h1
        · rw [if_pos (by assumption)]
        · exact absurd rfl h1
      subst he2
      have hbs0 := hnone (by omega)
      subst hbs0
      have hq : g < 0 ∨ 1000 < g := by unfold gapL at h1; by_cases h : g < 0 ∨ 1000 < g; exact h; rw [if_neg h] at h1; exact absurd rfl h1
      have HAl : Hid (alignR a' b' g = []) := Lib.hid (by rw [HAlg.out]; simp)
      clear h0 h1 f1 f2 f3 f4 hnone hee
      by_cases hq1 : g < 0
      · clear hq
        go_enter Try.func3, Try.ntmps3
        go_wp2_with fail
        go_quiet (first | (go_at_call 12; exact quiet_left (HA.out _)) | (go_at_call 12; exact quiet_left (HB.out _)))
        go_wp2_with fail
        have hbQ := below_drewN hbA nq
        have ha1 := (ha'.below hbQ).more hbQ.size
        have hb1 := (hb'.below hbQ).more hbQ.size
        refine (align_any _ _ a' b' g _ ha1 hb1).mono ?_
        rw [HE0.out, HAl.out]
        rintro e w1 ⟨v1, rfl, hown, hk⟩
        have hb2 := hbQ.trans (hk.mono hbQ.size)
        have ha2 := ha1.over hk
        have hb2' := hb1.over hk
        obtain ⟨P1, cp1, rfl, _⟩ := hown.shape
        clear hbA hbQ ha1 hb1 hown hk
        go_wp2_with fail
        refine (best_any _ _ a' b' g w1 ha2 hb2').mono ?_
        rw [HE0.out]
        rintro e w2 ⟨rfl, hk⟩
        have hb3 := hb2.trans (hk.mono hb2.size)
        have ha3 := ha2.over hk
        have hb3' := hb2'.over hk
        clear hb2 ha2 hb2' hk
        go_wp2_with fail
        refine (known_any _).mono ?_
        rintro e w3 ⟨rfl, hk⟩
        have hb4 := hb3.trans (hk.mono hb3.size)
        have ha4 := ha3.over hk
        have hb4' := hb3'.over hk
        clear hb3 ha3 hb3' hk
        go_wp2_with fail
        refine (lboth_any _ _ a' b' w3 ha4 hb4').mono ?_
        rw [HB0.out]
        rintro e w4 ⟨rfl, hk⟩
        have hb5 := hb4.trans (hk.mono hb4.size)
        clear hb4 ha4 hb4' hk
        go_wp2_with fail
        go_ret
        exact ⟨rfl, hb5⟩
      · have hq2 : 1000 < g := by omega
        clear hq
        go_enter Try.func3, Try.ntmps3
        go_wp2_with fail
        go_quiet (first | (go_at_call 12; exact quiet_left (HA.out _)) | (go_at_call 12; exact quiet_left (HB.out _)))
        go_wp2_with fail
        have hbQ := below_drewN hbA nq
        have ha1 := (ha'.below hbQ).more hbQ.size
        have hb1 := (hb'.below hbQ).more hbQ.size
        refine (align_any _ _ a' b' g _ ha1 hb1).mono ?_
        rw [HE0.out, HAl.out]
        rintro e w1 ⟨v1, rfl, hown, hk⟩
        have hb2 := hbQ.trans (hk.mono hbQ.size)
        have ha2 := ha1.over hk
        have hb2' := hb1.over hk
        obtain ⟨P1, cp1, rfl, _⟩ := hown.shape
        clear hbA hbQ ha1 hb1 hown hk
        go_wp2_with fail
        refine (best_any _ _ a' b' g w1 ha2 hb2').mono ?_
        rw [HE0.out]
        rintro e w2 ⟨rfl, hk⟩
        have hb3 := hb2.trans (hk.mono hb2.size)
        have ha3 := ha2.over hk
        have hb3' := hb2'.over hk
        clear hb2 ha2 hb2' hk
        go_wp2_with fail
        refine (known_any _).mono ?_
        rintro e w3 ⟨rfl, hk⟩
        have hb4 := hb3.trans (hk.mono hb3.size)
        have ha4 := ha3.over hk
        have hb4' := hb3'.over hk
        clear hb3 ha3 hb3' hk
        go_wp2_with fail
        refine (lboth_any _ _ a' b' w3 ha4 hb4').mono ?_
        rw [HB0.out]
        rintro e w4 ⟨rfl, hk⟩
        have hb5 := hb4.trans (hk.mono hb4.size)
        clear hb4 ha4 hb4' hk
        go_wp2_with fail
        go_ret
        exact ⟨rfl, hb5⟩
  · rw [if_pos (by simp [h0])] at hee
    subst hee
    have hbs0 := hnone h0
    subst hbs0
    have hb0 : (bothL a' b' != 0) = true := by simp [h0]
    have hb0' : (bothL a' b' == 0) = false := by simp [h0]
    have HAl : Hid (alignR a' b' g = []) := Lib.hid (by rw [HAlg.out, if_neg h0])
    clear h0 hnone
    go_enter Try.func3, Try.ntmps3
    go_wp2_with fail
    go_quiet (first | (go_at_call 12; exact quiet_left (HA.out _)) | (go_at_call 12; exact quiet_left (HB.out _)))
    go_wp2_with fail
    have hbQ := below_drewN hbA nq
    have ha1 := (ha'.below hbQ).more hbQ.size
    have hb1 := (hb'.below hbQ).more hbQ.size
    refine (align_any _ _ a' b' g _ ha1 hb1).mono ?_
    rw [HE0.out, HAl.out]
    rintro e w1 ⟨v1, rfl, hown, hk⟩
    have hb2 := hbQ.trans (hk.mono hbQ.size)
    have ha2 := ha1.over hk
    have hb2' := hb1.over hk
    obtain ⟨P1, cp1, rfl, _⟩ := hown.shape
    clear hbA hbQ ha1 hb1 hown hk
    go_wp2_with fail
    refine (best_any _ _ a' b' g w1 ha2 hb2').mono ?_
    rw [HE0.out]
    rintro e w2 ⟨rfl, hk⟩
    have hb3 := hb2.trans (hk.mono hb2.size)
    have ha3 := ha2.over hk
    have hb3' := hb2'.over hk
    clear hb2 ha2 hb2' hk
    go_wp2_with fail
    refine (known_any _).mono ?_
    rintro e w3 ⟨rfl, hk⟩
    have hb4 := hb3.trans (hk.mono hb3.size)
    have ha4 := ha3.over hk
    have hb4' := hb3'.over hk
    clear hb3 ha3 hb3' hk
    go_wp2_with fail
    refine (lboth_any _ _ a' b' w3 ha4 hb4').mono ?_
    rintro e w4 ⟨rfl, hk⟩
    have hb5 := hb4.trans (hk.mono hb4.size)
    clear hb4 ha4 hb4' hk
    go_wp2_with fail
    go_ret
    exact ⟨rfl, hb5⟩

end Go.Proofs.Ytbpegoekjlehcaa
