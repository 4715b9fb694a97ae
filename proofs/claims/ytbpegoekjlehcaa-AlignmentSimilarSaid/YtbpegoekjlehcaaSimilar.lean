/- Walk: AlignmentSimilar. -/
import Derived.Test.YtbpegoekjlehcaaL1
import Derived.Test.YtbpegoekjlehcaaW12
import Derived.Test.YtbpegoekjlehcaaT4
import Derived.Test.YtbpegoekjlehcaaSim
namespace Go.Proofs.Ytbpegoekjlehcaa
open Go.RowKit

theorem bothL_swap {a b : List Tok} (h : bothL a b ≠ 0) : bothL b a ≠ 0 := by
  intro h'
  apply h
  unfold bothL at h' ⊢
  by_cases hb : checkL b = 0
  · rw [if_pos hb] at h'
    rw [if_pos h']; exact hb
  · rw [if_neg hb] at h'; exact absurd h' hb
theorem similL_err {a b : List Tok} (h : bothL a b ≠ 0) : similL a b = (0, bothL a b) := by unfold similL; rw [if_pos h]
theorem take_step {a b : List Tok} {k : Nat} (h : k < a.length) (h' : k < b.length) (ht : a.take k = b.take k) (he : a[k] = b[k]) : a.take (k + 1) = b.take (k + 1) := by
  rw [List.take_succ_eq_append_getElem h, List.take_succ_eq_append_getElem h', ht, he]

set_option maxRecDepth 100000 in
set_option maxHeartbeats 4000000 in
theorem similar_any (va vb : Value) (a b : List Tok) (w : World) (ha : Toks w w.heap.size va a) (hb : Toks w w.heap.size vb b) :
    Calls Try.prog 6 #[.agg #[va, vb]] w fun e w' => e = .returned (.bool true) ∧ Below w.heap.size w w' := by
  obtain ⟨A, n, m, c, rfl, ha', hm, hml, hcutA⟩ := cut_tok ha
  obtain ⟨A2, n2, m2, c2, rfl, hb', hm2, hml2, hcutB⟩ := cut_tok hb
  obtain ⟨a', hae⟩ : ∃ a', a' = a.take 40 := ⟨_, rfl⟩
  obtain ⟨b', hbe⟩ : ∃ b', b' = b.take 40 := ⟨_, rfl⟩
  rw [← hae] at ha' hml
  rw [← hbe] at hb' hml2
  clear hae hbe ha hb
  have HA := Lib.hid hcutA
  have HB := Lib.hid hcutB
  have HM := Lib.hid hml
  have HM2 := Lib.hid hml2
  clear hcutA hcutB hml hml2
  have hbA : Below w.heap.size w (w.alloc (.cells #[.slice A n c, .slice A2 n2 c2] 24)) := (Below.refl _ _).alloc (Nat.le_refl _) _
  by_cases h0 : bothL a' b' = 0
  · have HB0 := Lib.hid h0
    obtain ⟨f1, f2, f3, f4⟩ := bothL_zero h0
    have HF := Lib.hid (And.intro f1 f2)
    obtain ⟨v, hv⟩ : ∃ v, v = oT 0 a' b' 0 0 0 := ⟨_, rfl⟩
    obtain ⟨sa, hsa⟩ : ∃ sa, sa = sumL a' := ⟨_, rfl⟩
    obtain ⟨sb, hsb⟩ : ∃ sb, sb = sumL b' := ⟨_, rfl⟩
    obtain ⟨q, hq⟩ : ∃ q, q = if sa + sb = 0 then 1000 else 2000 * v / (sa + sb) := ⟨_, rfl⟩
    have h0' : bothL b' a' = 0 := by
      by_cases h : bothL b' a' = 0
      · exact h
      · exact absurd h0 (bothL_swap h)
    have HS1 : Hid (similL a' b' = (q, 0)) := Lib.hid (by
      unfold similL; rw [if_neg (by simp [h0]), ← hsa, ← hsb, ← hv, hq]
      split <;> rfl)
    have HS2 : Hid (similL b' a' = (q, 0)) := Lib.hid (by
      unfold similL; rw [if_neg (by simp [h0']), ← hsa, ← hsb, oT_swap (Int.le_refl _) f2 f1, ← hv, hq, Int.add_comm sb sa]
      split <;> rfl)
    have hsums := oT_sums f1 f2
    rw [← hv, ← hsa, ← hsb] at hsums
    have hba := sumL_bound a' f1
    have hbb := sumL_bound b' f2
    rw [← hsa] at hba
    rw [← hsb] at hbb
    have hal40 : a'.length ≤ 40 := by have := HM.out; omega
    have hbl40 : b'.length ≤ 40 := by have := HM2.out; omega
    have hz : sa + sb = 0 ↔ m + m2 = 0 := by
      have e1 := sum_zero f1
      have e2 := sum_zero f2
      rw [← hsa] at e1
      rw [← hsb] at e2
      have := HM.out
      have := HM2.out
      constructor
      · intro h; omega
      · intro h
        have x1 : a' = [] := List.eq_nil_of_length_eq_zero (by omega)
        have x2 : b' = [] := List.eq_nil_of_length_eq_zero (by omega)
        have := e1.2 x1
        have := e2.2 x2
        omega
    have HQ : Hid (0 ≤ q ∧ q ≤ 1000 ∧ (q = 1000 ↔ a' = b')) := Lib.hid (by
      rw [hq]
      by_cases h : sa + sb = 0
      · rw [if_pos h]
        refine ⟨by omega, by omega, fun _ => ?_, fun _ => rfl⟩
        have x0 := hz.1 h
        have := HM.out
        have := HM2.out
        rw [List.eq_nil_of_length_eq_zero (show a'.length = 0 by omega), List.eq_nil_of_length_eq_zero (show b'.length = 0 by omega)]
      · rw [if_neg h, hv, hsa, hsb]
        exact simil_val f1 f2 (by omega))
    have HQV := Lib.hid hq
    have HVE := Lib.hid hv
    have HSA := Lib.hid hsa
    have HSB := Lib.hid hsb
    have HZ := Lib.hid hz
    have hva := align_valid (g := 0) (a := a') (b := b')
    have HV := Lib.hid hva
    have HSC : Hid (scoreL a' b' 0 (alignL a' b' 0) = v) := Lib.hid (by rw [align_score, hv])
    have HPL : Hid ((alignL a' b' 0).length ≤ 4096) := Lib.hid (by have := hva.length (Nat.zero_le _); omega)
    clear h0 h0' hv hsa hsb hq hz hva f1 f2
    go_enter Try.func6, Try.ntmps6
    go_wp2_with fail
    go_quiet (first | (go_at_call 12; exact quiet_left (HA.out _)) | (go_at_call 12; exact quiet_left (HB.out _)))
    go_wp2_with fail
    have hbQ := below_drewN hbA nq
    have ha1 := (ha'.below hbQ).more hbQ.size
    have hb1 := (hb'.below hbQ).more hbQ.size
    refine (simil_any _ _ a' b' _ ha1 hb1).mono ?_
    rw [HS1.out]
    rintro e w1 ⟨rfl, hk⟩
    have hb2 := hbQ.trans (hk.mono hbQ.size)
    have ha2 := ha1.over hk
    have hb2' := hb1.over hk
    clear hbA hbQ ha1 hb1 hk
    go_wp2_with fail
    refine (simil_any _ _ b' a' w1 hb2' ha2).mono ?_
    rw [HS2.out]
    rintro e w2 ⟨rfl, hk⟩
    have hb3 := hb2.trans (hk.mono hb2.size)
    have ha3 := ha2.over hk
    have hb3' := hb2'.over hk
    clear hb2 ha2 hb2' hk
    go_wp2_with fail
    refine (known_any _).mono ?_
    rintro e w3 ⟨rfl, hk⟩
    have hb4 := hb3.trans (hk.mono hb3.size)
    have ha4 := ha3.over hk
    have hb4' := hb3'.over hk
    clear hb3 ha3 hb3' hk
    go_wp2_with fail
    refine (lboth_any _ _ a' b' w3 ha4 hb4').mono ?_
    rw [HB0.out]
    rintro e w4 ⟨rfl, hk⟩
    have hb5 := hb4.trans (hk.mono hb4.size)
    have ha5 := ha4.over hk
    have hb5' := hb4'.over hk
    clear hb4 ha4 hb4' hk
    obtain ⟨A0, c0, hA0, hn0, hc0, HT⟩ := ha5.tok
    obtain ⟨A1, c1, hA1, hn1, hc1, HT'⟩ := hb5'.tok
    rw [← HM.out] at hA0 hn0
    rw [← HM2.out] at hA1 hn1
    injection hA0 with hA0 _ hA0'
    injection hA1 with hA1 _ hA1'
    subst hA0 hA1 hA0' hA1'
    go_wp2_with fail
    go_loopw [10, 11] (fun ev iv wr => ∃ (k : Nat) (e : Bool), k ≤ m ∧ iv = .int .i64 k ∧ ev = .bool e ∧ Hid ((e = true → m = m2 ∧ a'.take k = b'.take k) ∧ (e = false → a' ≠ b')) ∧ Below w4.heap.size w4 wr) (fun _ iv _ => (m - intOf iv).toNat)
    case atStart =>
      refine ⟨0, decide (m = m2), by omega, rfl, ?_, Lib.hid ⟨fun h => ⟨by simpa using h, rfl⟩, fun h e => ?_⟩, Below.refl _ _⟩
      · congr 1; rw [Bool.eq_iff_iff]; simp; constructor <;> intro h <;> omega
      · have := HM.out
        have := HM2.out
        subst e
        simp at h
        omega
    case round =>
      obtain ⟨k, e, hk, rfl, rfl, HEV, hbr⟩ := hrel
      have hbz := hbr.size
      by_cases hgo : k < m ∧ e = true
      · obtain ⟨hkm, rfl⟩ := hgo
        obtain ⟨hmm, htk⟩ := HEV.out.1 rfl
        have hka : k < a'.length := by have := HM.out; omega
        have hkb : k < b'.length := by have := HM2.out; omega
        obtain ⟨b1, o1, rfl, hB1, g11, g12⟩ := (HT.below hbr) k hka
        obtain ⟨b2, o2, rfl, hB2, g21, g22⟩ := (HT'.below hbr) k hkb
        have hkm2 : k < m2 := by omega
        have HTK := Lib.hid htk
        have HMM := Lib.hid hmm
        clear htk hmm HEV
        by_cases h1 : a'[k].1 = b'[k].1 <;> by_cases h2 : a'[k].2 = b'[k].2
        all_goals
          go_wp2_with fail
          go_quiet (fail)
          go_wp2_with fail
        all_goals
          go_roundw
          case rel => first
            | exact ⟨k + 1, true, by omega, by go_num, rfl, Lib.hid ⟨fun _ => ⟨HMM.out, take_step hka hkb HTK.out (Prod.ext h1 h2)⟩, fun h => by cases h⟩, below_drewN hbr _⟩
            | exact ⟨k + 1, false, by omega, by go_num, rfl, Lib.hid ⟨fun h => (by cases h), fun _ e => by subst e; first | exact h1 rfl | exact h2 rfl⟩, below_drewN hbr _⟩
          case measure => simp [intOf]; omega
      · have HE : Hid (e = decide (a' = b')) := Lib.hid (by
          cases e with
          | false => have := HEV.out.2 rfl; simp [this]
          | true =>
            have hkm : ¬ k < m := fun h => hgo ⟨h, rfl⟩
            obtain ⟨hmm, htk⟩ := HEV.out.1 rfl
            have e1 := HM.out
            have e2 := HM2.out
            rw [List.take_of_length_le (by omega), List.take_of_length_le (by omega)] at htk
            simp [htk])
        clear HEV HT HT'
        by_cases hkm : k < m
        · have he : e = false := by
            cases e with
            | false => rfl
            | true => exact absurd ⟨hkm, rfl⟩ hgo
          subst he
          clear hgo
          have hqe : ((q : Int) == 1000) = false := by
            rw [HE.out, Bool.eq_iff_iff]
            simpa using HQ.out.2.2
          have hq0 := HQ.out.1
          have hq1 := HQ.out.2.1
          have hb6 := hb5.trans (hbr.mono hb5.size)
          by_cases hmz : m + m2 = 0
          · omega
          · have hz1 : ¬ sa + sb = 0 := fun h => hmz (HZ.out.1 h)
            have hq2 : 2000 * v / (sa + sb) = q := by rw [HQV.out, if_neg hz1]
            have hz2 : 0 < sa + sb := by omega
            have ha6 := ha5.over hbr
            have hb6' := hb5'.over hbr
            clear hz1
            go_wp2_with fail
            refine (malign_any _ _ a' b' 0 _ ha6 hb6' HF.out.1 HF.out.2 f3 f4 (by omega) (by omega)).mono ?_
            rintro e5 w5 ⟨v5, rfl, hown, hk⟩
            have hb7 := hb6.trans (hk.mono hb6.size)
            have ha7 := ha6.over hk
            have hb7' := hb6'.over hk
            have hr7 := hown.sl encT_length
            clear hb6 ha6 hb6' hown hk
            go_wp2_with fail
            refine (score_any _ _ _ a' b' _ 0 w5 ha7 hb7' hr7 HF.out.1 HF.out.2 HV.out.inR HPL.out (by omega) (by omega) (by omega) (by omega)).mono ?_
            rw [HSC.out]
            rintro e6 w6 ⟨rfl, hk⟩
            have hb8 := hb7.trans (hk.mono hb7.size)
            have ha8 := ha7.over hk
            have hb8' := hb7'.over hk
            clear hb7 ha7 hb7' hr7 hk
            go_wp2_with fail
            refine (sum_any _ a' w6 ha8 HF.out.1 (by omega)).mono ?_
            rw [← HSA.out]
            rintro e7 w7 ⟨rfl, rfl⟩
            go_wp2_with fail
            refine (sum_any _ b' w6 hb8' HF.out.2 (by omega)).mono ?_
            rw [← HSB.out]
            rintro e8 w8 ⟨rfl, rfl⟩
            go_wp2_with fail
            go_ret
            exact ⟨rfl, hb8⟩
        · clear hgo
          have hqe : ((q : Int) == 1000) = e := by
            rw [HE.out, Bool.eq_iff_iff]
            simpa using HQ.out.2.2
          have hq0 := HQ.out.1
          have hq1 := HQ.out.2.1
          have hb6 := hb5.trans (hbr.mono hb5.size)
          by_cases hmz : m + m2 = 0
          · have hz1 := HZ.out.2 hmz
            have hq2 : q = 1000 := by rw [HQV.out, if_pos hz1]
            have he : e = true := by rw [← hqe, hq2]; rfl
            subst hq2 he
            clear hz1
            go_wp2_with fail
            go_ret
            exact ⟨rfl, hb6⟩
          · have hz1 : ¬ sa + sb = 0 := fun h => hmz (HZ.out.1 h)
            have hq2 : 2000 * v / (sa + sb) = q := by rw [HQV.out, if_neg hz1]
            have hz2 : 0 < sa + sb := by omega
            have ha6 := ha5.over hbr
            have hb6' := hb5'.over hbr
            clear hz1
            go_wp2_with fail
            refine (malign_any _ _ a' b' 0 _ ha6 hb6' HF.out.1 HF.out.2 f3 f4 (by omega) (by omega)).mono ?_
            rintro e5 w5 ⟨v5, rfl, hown, hk⟩
            have hb7 := hb6.trans (hk.mono hb6.size)
            have ha7 := ha6.over hk
            have hb7' := hb6'.over hk
            have hr7 := hown.sl encT_length
            clear hb6 ha6 hb6' hown hk
            go_wp2_with fail
            refine (score_any _ _ _ a' b' _ 0 w5 ha7 hb7' hr7 HF.out.1 HF.out.2 HV.out.inR HPL.out (by omega) (by omega) (by omega) (by omega)).mono ?_
            rw [HSC.out]
            rintro e6 w6 ⟨rfl, hk⟩
            have hb8 := hb7.trans (hk.mono hb7.size)
            have ha8 := ha7.over hk
            have hb8' := hb7'.over hk
            clear hb7 ha7 hb7' hr7 hk
            go_wp2_with fail
            refine (sum_any _ a' w6 ha8 HF.out.1 (by omega)).mono ?_
            rw [← HSA.out]
            rintro e7 w7 ⟨rfl, rfl⟩
            go_wp2_with fail
            refine (sum_any _ b' w6 hb8' HF.out.2 (by omega)).mono ?_
            rw [← HSB.out]
            rintro e8 w8 ⟨rfl, rfl⟩
            go_wp2_with fail
            go_ret
            exact ⟨rfl, hb8⟩
  · have HS1 := Lib.hid (similL_err h0)
    have h0' := bothL_swap h0
    have HS2 := Lib.hid (similL_err h0')
    have hb0 : (bothL a' b' != 0) = true := by simp [h0]
    have hb0' : (bothL b' a' != 0) = true := by simp [h0']
    clear h0 h0'
    go_enter Try.func6, Try.ntmps6
    go_wp2_with fail
    go_quiet (first | (go_at_call 12; exact quiet_left (HA.out _)) | (go_at_call 12; exact quiet_left (HB.out _)))
    go_wp2_with fail
    have hbQ := below_drewN hbA nq
    have ha1 := (ha'.below hbQ).more hbQ.size
    have hb1 := (hb'.below hbQ).more hbQ.size
    refine (simil_any _ _ a' b' _ ha1 hb1).mono ?_
    rw [HS1.out]
    rintro e w1 ⟨rfl, hk⟩
    have hb2 := hbQ.trans (hk.mono hbQ.size)
    have ha2 := ha1.over hk
    have hb2' := hb1.over hk
    clear hbA hbQ ha1 hb1 hk
    go_wp2_with fail
    refine (simil_any _ _ b' a' w1 hb2' ha2).mono ?_
    rw [HS2.out]
    rintro e w2 ⟨rfl, hk⟩
    have hb3 := hb2.trans (hk.mono hb2.size)
    have ha3 := ha2.over hk
    have hb3' := hb2'.over hk
    clear hb2 ha2 hb2' hk
    go_wp2_with fail
    refine (known_any _).mono ?_
    rintro e w3 ⟨rfl, hk⟩
    have hb4 := hb3.trans (hk.mono hb3.size)
    have ha4 := ha3.over hk
    have hb4' := hb3'.over hk
    clear hb3 ha3 hb3' hk
    go_wp2_with fail
    refine (lboth_any _ _ a' b' w3 ha4 hb4').mono ?_
    rintro e w4 ⟨rfl, hk⟩
    have hb5 := hb4.trans (hk.mono hb4.size)
    clear hb4 ha4 hb4' hk
    go_wp2_with fail
    go_ret
    exact ⟨rfl, hb5⟩

end Go.Proofs.Ytbpegoekjlehcaa
