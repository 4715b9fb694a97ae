/- Walk: AlignmentTurns. -/
import Derived.Test.YtbpegoekjlehcaaL1
import Derived.Test.YtbpegoekjlehcaaOpt3
namespace Go.Proofs.Ytbpegoekjlehcaa
open Go.RowKit

theorem best_right {a b : List Tok} {G : Int} (h0 : bothL a b = 0) (hg : gapL G = 0) : bestL a b G = (oT G a b 0 0 0, 0) := by
  unfold bestL; rw [if_neg (by simp [h0]), if_neg (by simp [hg])]
theorem check_zero {l : List Tok} : checkL l = 0 ↔ WOk l ∧ l.length ≤ 2048 := by
  unfold checkL
  by_cases h : 2048 < l.length
  · rw [if_pos h]; exact ⟨fun h => by omega, fun h => by omega⟩
  · rw [if_neg h, chk_zero]; exact ⟨fun h' => ⟨h', by omega⟩, fun h' => h'.1⟩
theorem both_of {a b : List Tok} (ha : WOk a) (hb : WOk b) (hal : a.length ≤ 2048) (hbl : b.length ≤ 2048) : bothL a b = 0 := by
  unfold bothL; rw [if_pos (check_zero.2 ⟨ha, hal⟩)]; exact check_zero.2 ⟨hb, hbl⟩

set_option maxRecDepth 100000 in
set_option maxHeartbeats 4000000 in
theorem turns_any (va vb : Value) (a b : List Tok) (gp : Nat) (hgp : gp ≤ 65535) (w : World) (ha : Toks w w.heap.size va a) (hb : Toks w w.heap.size vb b) :
    Calls Try.prog 5 #[.agg #[va, vb], .int .u16 gp] w fun e w' => e = .returned (.bool true) ∧ Below w.heap.size w w' := by
  obtain ⟨A, n, m, c, rfl, ha', hm, hml, hcutA⟩ := cut_tok ha
  obtain ⟨A2, n2, m2, c2, rfl, hb', hm2, hml2, hcutB⟩ := cut_tok hb
  obtain ⟨a', hae⟩ : ∃ a', a' = a.take 40 := ⟨_, rfl⟩
  obtain ⟨b', hbe⟩ : ∃ b', b' = b.take 40 := ⟨_, rfl⟩
  rw [← hae] at ha' hml
  rw [← hbe] at hb' hml2
  clear hae hbe ha hb
  have HA := Lib.hid hcutA
  have HB := Lib.hid hcutB
  have HM := Lib.hid hml
  have HM2 := Lib.hid hml2
  clear hcutA hcutB hml hml2
  have hbA : Below w.heap.size w (w.alloc (.cells #[.slice A n c, .slice A2 n2 c2] 24)) := (Below.refl _ _).alloc (Nat.le_refl _) _
  by_cases h0 : bothL a' b' = 0
  · have hb0 : (bothL a' b' != 0) = false := by simp [h0]
    obtain ⟨f1, f2, f3, f4⟩ := bothL_zero h0
    obtain ⟨G, hG⟩ : ∃ G : Nat, G = gp % 1001 := ⟨_, rfl⟩
    have hG1 : (0 : Int) ≤ (G : Int) ∧ (G : Int) ≤ 1000 := by omega
    have hGI : (gp : Int) % 1001 = (G : Int) := by omega
    have hGw : wrap64 (G : Int) = (G : Int) := by unfold wrap64; omega
    have hgl : gapL (G : Int) = 0 := by unfold gapL; rw [if_neg (by omega)]
    have f1r : WOk a'.reverse := fun t ht => f1 t (by simpa using ht)
    have f2r : WOk b'.reverse := fun t ht => f2 t (by simpa using ht)
    obtain ⟨bs, hbs⟩ : ∃ bs, bs = oT G a' b' 0 0 0 := ⟨_, rfl⟩
    have HB1 : Hid (bestL a' b' G = (bs, 0)) := Lib.hid (by rw [best_right h0 hgl, hbs])
    have HB2 : Hid (bestL b' a' G = (bs, 0)) := Lib.hid (by rw [best_right (both_of f2 f1 f4 f3) hgl, hbs, oT_swap hG1.1 f1 f2])
    have HB3 : Hid (bestL a'.reverse b'.reverse G = (bs, 0)) := Lib.hid (by rw [best_right (both_of f1r f2r (by simpa using f3) (by simpa using f4)) hgl, hbs, oT_rev hG1.1 f1 f2])
    have HB4 : Hid ((bestL a' a' G).2 = 0) := Lib.hid (by rw [best_right (both_of f1 f1 f3 f3) hgl])
    have HAl : Hid ((alignR a' a' G).length = m) := Lib.hid (by unfold alignR; rw [HB4.out, if_pos rfl, align_self hG1.1 f1, HM.out])
    have hal40 : a'.length ≤ 40 := by have := HM.out; omega
    have hbl40 : b'.length ≤ 40 := by have := HM2.out; omega
    clear h0 hG hG1 hgl f1 f2 f1r f2r hbs
    go_enter Try.func5, Try.ntmps5
    go_wp2_with fail
    go_quiet (first | (go_at_call 12; exact quiet_left (HA.out _)) | (go_at_call 12; exact quiet_left (HB.out _)))
    go_wp2_with fail
    have hbQ := below_drewN hbA nq
    refine (known_any _).mono ?_
    rintro e w1 ⟨rfl, hk⟩
    have hb2 := hbQ.trans (hk.mono hbQ.size)
    have ha2 := (ha'.below hb2).more hb2.size
    have hb2' := (hb'.below hb2).more hb2.size
    clear hbA hbQ hk
    go_wp2_with fail
    refine (lboth_any _ _ a' b' w1 ha2 hb2').mono ?_
    rintro e w2 ⟨rfl, hk⟩
    have hb3 := hb2.trans (hk.mono hb2.size)
    have ha3 := ha2.over hk
    have hb3' := hb2'.over hk
    clear hb2 ha2 hb2' hk
    go_wp2_with fail
    refine (best_any _ _ a' b' G w2 ha3 hb3').mono ?_
    rw [HB1.out]
    rintro e w3 ⟨rfl, hk⟩
    have hb4 := hb3.trans (hk.mono hb3.size)
    have ha4 := ha3.over hk
    have hb4' := hb3'.over hk
    clear hb3 ha3 hb3' hk
    go_wp2_with fail
    refine (best_any _ _ b' a' G w3 hb4' ha4).mono ?_
    rw [HB2.out]
    rintro e w4 ⟨rfl, hk⟩
    have hb5 := hb4.trans (hk.mono hb4.size)
    have ha5 := ha4.over hk
    have hb5' := hb4'.over hk
    clear hb4 ha4 hb4' hk
    go_wp2_with fail
    refine (reversed_any _ a' w4 ha5 (by omega)).mono ?_
    rintro e w5 ⟨v5, rfl, ho, hk⟩
    have hb6 := hb5.trans (hk.mono hb5.size)
    have ha6 := ha5.over hk
    have hb6' := hb5'.over hk
    have hr6 := ho.sl encT_length
    clear hb5 ha5 hb5' hk ho
    go_wp2_with fail
    refine (reversed_any _ b' w5 hb6' (by omega)).mono ?_
    rintro e w6 ⟨v6, rfl, ho, hk⟩
    have hb7 := hb6.trans (hk.mono hb6.size)
    have ha7 := ha6.over hk
    have hr7 := hr6.over hk
    have hq7 := ho.sl encT_length
    clear hb6 ha6 hb6' hk ho hr6
    go_wp2_with fail
    refine (best_any _ _ a'.reverse b'.reverse G w6 hr7 hq7).mono ?_
    rw [HB3.out]
    rintro e w7 ⟨rfl, hk⟩
    have hb8 := hb7.trans (hk.mono hb7.size)
    have ha8 := ha7.over hk
    clear hb7 ha7 hr7 hq7 hk
    go_wp2_with fail
    refine (align_any _ _ a' a' G w7 ha8 ha8).mono ?_
    rw [HB4.out]
    rintro e w8 ⟨v8, rfl, ho, hk⟩
    have hb9 := hb8.trans (hk.mono hb8.size)
    obtain ⟨A8, c8, hv8, _, _⟩ := ho.shape
    rw [HAl.out] at hv8
    subst hv8
    clear hb8 ha8 hk ho
    go_wp2_with fail
    go_ret
    exact ⟨rfl, hb9⟩
  · have hb0 : (bothL a' b' != 0) = true := by simp [h0]
    clear h0
    go_enter Try.func5, Try.ntmps5
    go_wp2_with fail
    go_quiet (first | (go_at_call 12; exact quiet_left (HA.out _)) | (go_at_call 12; exact quiet_left (HB.out _)))
    go_wp2_with fail
    have hbQ := below_drewN hbA nq
    refine (known_any _).mono ?_
    rintro e w1 ⟨rfl, hk⟩
    have hb2 := hbQ.trans (hk.mono hbQ.size)
    have ha2 := (ha'.below hb2).more hb2.size
    have hb2' := (hb'.below hb2).more hb2.size
    clear hbA hbQ hk
    go_wp2_with fail
    refine (lboth_any _ _ a' b' w1 ha2 hb2').mono ?_
    rintro e w2 ⟨rfl, hk⟩
    have hb3 := hb2.trans (hk.mono hb2.size)
    clear hb2 ha2 hb2' hk
    go_wp2_with fail
    refine (known_any _).mono ?_
    rintro e w3 ⟨rfl, hk⟩
    have hb4 := hb3.trans (hk.mono hb3.size)
    clear hb3 hk
    go_wp2_with fail
    go_ret
    exact ⟨rfl, hb4⟩

end Go.Proofs.Ytbpegoekjlehcaa
