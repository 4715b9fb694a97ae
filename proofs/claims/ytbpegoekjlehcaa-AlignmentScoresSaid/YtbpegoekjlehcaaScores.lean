/- Walk: AlignmentScores. -/
import Derived.Test.YtbpegoekjlehcaaL1
import Derived.Test.YtbpegoekjlehcaaW17
import Derived.Test.YtbpegoekjlehcaaW14
namespace Go.Proofs.Ytbpegoekjlehcaa
open Go.RowKit

set_option maxRecDepth 100000 in
set_option maxHeartbeats 2000000 in
theorem lscore_any (va vb vp : Value) (a b p : List Tok) (g : Int) (w : World) (ha : Toks w w.heap.size va a) (hb : Toks w w.heap.size vb b) (hp : Toks w w.heap.size vp p) :
    Calls Try.prog 31 #[va, vb, vp, .int .i64 g] w fun e w' => e = .returned (.tuple #[.int .i64 (lscoreL a b p g).1, .int .i64 (lscoreL a b p g).2]) ∧ Below w.heap.size w w' := by
  have H1 : Hid (∀ W : World, Below w.heap.size w W → Calls Try.prog 32 #[va, vb] W fun e w' => e = .returned (.int .i64 (bothL a b)) ∧ Below W.heap.size W w') := Lib.hid fun W h => both_any va vb a b W (ha.over h) (hb.over h)
  have H2 : Hid (∀ W : World, Below w.heap.size w W → Calls Try.prog 29 #[va, vb, vp] W fun e w' => e = .returned (.int .i64 (lpairsL a b p)) ∧ Below W.heap.size W w') := Lib.hid fun W h => lpairs_any va vb vp a b p W (ha.over h) (hb.over h) (hp.over h)
  by_cases h0 : bothL a b = 0
  · by_cases h1 : gapL g = 0
    · by_cases h2 : pairsL a b p = 0
      · have HR : lscoreL a b p g = (scoreL a b g p, 0) := by unfold lscoreL; rw [if_neg (by simp [h0]), if_neg (by simp [h1]), if_neg (by simp [h2])]
        rw [HR]
        obtain ⟨A, c, rfl, _⟩ := id ha
        obtain ⟨A', c', rfl, _⟩ := id hb
        obtain ⟨A'', c'', rfl, _⟩ := id hp
        exact lscore_main A A' A'' c c' c'' a b p g w ha hb hp h0 h1 h2
      · have HR : Hid (lscoreL a b p g = (0, lpairsL a b p)) := Lib.hid (by unfold lscoreL lpairsL; rw [if_neg (by simp [h0]), if_neg (by simp [h1]), if_pos (by simp [h2]), if_neg (by simp [h0])])
        have hp0 : (lpairsL a b p != 0) = true := by unfold lpairsL; rw [if_neg (by simp [h0])]; simp [h2]
        have hb0 : (bothL a b != 0) = false := by simp [h0]
        have hg0 : (gapL g != 0) = false := by simp [h1]
        clear h0 h1 h2 ha hb hp
        go_enter Try.func31, Try.ntmps31
        go_wp2_with fail
        have hba : Below w.heap.size w (w.alloc (.cells #[.int .i64 g] 3)) := (Below.refl _ w).alloc (Nat.le_refl _) _
        refine (H1.out _ hba).mono ?_
        rintro e w1 ⟨rfl, hk⟩
        have cG : w1.cell? ⟨w.heap.size, 0, none⟩ = some (.int .i64 g) := cell_over (blk_cell (heap_alloc_new w _) 0) hk
        have hb1 := hba.trans (hk.mono hba.size)
        clear hk hba
        go_wp2_with fail
        refine (gap_any g w1).mono ?_
        rintro e w2 ⟨rfl, rfl⟩
        go_wp2_with fail
        refine (H2.out _ hb1).mono ?_
        rintro e w2 ⟨rfl, hk⟩
        have hb2 := hb1.trans (hk.mono hb1.size)
        clear hk
        go_wp2_with fail
        go_ret2
        exact ⟨by rw [HR.out]; rfl, hb2⟩
    · have HR : Hid (lscoreL a b p g = (0, gapL g)) := Lib.hid (by unfold lscoreL; rw [if_neg (by simp [h0]), if_pos (by simp [h1])])
      have hb0 : (bothL a b != 0) = false := by simp [h0]
      have hg0 : (gapL g != 0) = true := by simp [h1]
      clear h0 h1 ha hb hp
      go_enter Try.func31, Try.ntmps31
      go_wp2_with fail
      have hba : Below w.heap.size w (w.alloc (.cells #[.int .i64 g] 3)) := (Below.refl _ w).alloc (Nat.le_refl _) _
      refine (H1.out _ hba).mono ?_
      rintro e w1 ⟨rfl, hk⟩
      have cG : w1.cell? ⟨w.heap.size, 0, none⟩ = some (.int .i64 g) := cell_over (blk_cell (heap_alloc_new w _) 0) hk
      have hb1 := hba.trans (hk.mono hba.size)
      clear hk hba
      go_wp2_with fail
      refine (gap_any g w1).mono ?_
      rintro e w2 ⟨rfl, rfl⟩
      go_wp2_with fail
      go_ret2
      exact ⟨by rw [HR.out]; rfl, hb1⟩
  · have HR : Hid (lscoreL a b p g = (0, bothL a b)) := Lib.hid (by unfold lscoreL; rw [if_pos (by simp [h0])])
    have hb0 : (bothL a b != 0) = true := by simp [h0]
    clear h0 ha hb hp
    go_enter Try.func31, Try.ntmps31
    go_wp2_with fail
    have hba : Below w.heap.size w (w.alloc (.cells #[.int .i64 g] 3)) := (Below.refl _ w).alloc (Nat.le_refl _) _
    refine (H1.out _ hba).mono ?_
    rintro e w1 ⟨rfl, hk⟩
    have hb1 := hba.trans (hk.mono hba.size)
    clear hk hba
    go_wp2_with fail
    go_ret2
    exact ⟨by rw [HR.out]; rfl, hb1⟩

set_option maxRecDepth 100000 in
set_option maxHeartbeats 8000000 in
theorem scores_any (va vb vp : Value) (a b p : List Tok) (g : Int) (w : World) (ha : Toks w w.heap.size va a) (hb : Toks w w.heap.size vb b) (hp : Toks w w.heap.size vp p) :
    Calls Try.prog 11 #[.agg #[va, vb], vp, .int .i64 g] w fun e w' => e = .returned (.bool true) ∧ Below w.heap.size w w' := by
  obtain ⟨A, n, m, c, rfl, ha', hm, hml, hcutA⟩ := cut_tok ha
  obtain ⟨A2, n2, m2, c2, rfl, hb', hm2, hml2, hcutB⟩ := cut_tok hb
  obtain ⟨A3, c3, rfl, hn3, hc3, _⟩ := id hp
  obtain ⟨m3, hm3⟩ : ∃ k, k = min p.length 40 := ⟨_, rfl⟩
  have hp' := hp.take 40 A3 p.length c3 rfl
  rw [← hm3] at hp'
  obtain ⟨a', hae⟩ : ∃ a', a' = a.take 40 := ⟨_, rfl⟩
  obtain ⟨b', hbe⟩ : ∃ b', b' = b.take 40 := ⟨_, rfl⟩
  obtain ⟨p', hpe⟩ : ∃ p', p' = p.take 40 := ⟨_, rfl⟩
  obtain ⟨n3, hn3e⟩ : ∃ n, n = p.length := ⟨_, rfl⟩
  rw [← hae] at ha' hml
  rw [← hbe] at hb' hml2
  rw [← hpe] at hp'
  rw [← hn3e] at hm3 hn3 ⊢
  clear hae hbe hpe ha hb hp hn3e
  have HA := Lib.hid hcutA
  have HB := Lib.hid hcutB
  have HM := Lib.hid hml
  have HM2 := Lib.hid hml2
  clear hcutA hcutB hml hml2
  have hbA : Below w.heap.size w (w.alloc (.cells #[.slice A n c, .slice A2 n2 c2] 24)) := (Below.refl _ _).alloc (Nat.le_refl _) _
  have hc3m : c3 ≤ 9223372036854775807 := by unfold maxLen at hc3; omega
  have hmc3 : m3 ≤ c3 := by omega
  have hminI : min (n3 : Int) 40 = (m3 : Int) := by omega
  clear hm3
  by_cases h0 : bothL a' b' = 0
  · by_cases h1 : gapL g = 0
    · by_cases h2 : pairsL a' b' p' = 0
      · have HL : Hid (lscoreL a' b' p' g = (scoreL a' b' g p', 0)) := Lib.hid (by unfold lscoreL; rw [if_neg (by simp [h0]), if_neg (by simp [h1]), if_neg (by simp [h2])])
        obtain ⟨f1, f2, f3, f4⟩ := bothL_zero h0
        obtain ⟨hg0, hg1⟩ := gapL_zero h1
        have hpl := (inc_of_pairs a' b' p' (-1) (-1) h2 (by omega) (by omega)).len
        have HIR := Lib.hid (inR_of_pairs h2)
        have HW := Lib.hid (And.intro f1 f2)
        have HB0 := Lib.hid h0
        have HP0 := Lib.hid h2
        clear f1 f2 h0 h1 h2
        go_enter Try.func11, Try.ntmps11
        go_wp2_with fail
        go_quiet (first | (go_at_call 12; exact quiet_left (HA.out _)) | (go_at_call 12; exact quiet_left (HB.out _)))
        go_wp2_with fail
        all_goals
          first
            | (have e3 : m3 = n3 := by omega
               rw [e3] at hp')
            | (have e3 : m3 = 40 := by omega
               rw [e3] at hp')
          have hb0 := below_drewN hbA nq
          have ha0 := (ha'.below hb0).more hb0.size
          have hb0' := (hb'.below hb0).more hb0.size
          have hp0 := (hp'.below hb0).more hb0.size
          clear hbA
          refine (lscore_any _ _ _ a' b' p' g _ ha0 hb0' hp0).mono ?_
          rw [HL.out]
          rintro e w1 ⟨rfl, hk⟩
          have hb1 := hb0.trans (hk.mono hb0.size)
          have ha1 := ha0.over hk
          have hb1' := hb0'.over hk
          have hp1 := hp0.over hk
          clear hb0 ha0 hb0' hp0 hk
          go_wp2_with fail
          refine (known_any _).mono ?_
          rintro e w2 ⟨rfl, hk⟩
          have hb2 := hb1.trans (hk.mono hb1.size)
          have ha2 := ha1.over hk
          have hb2' := hb1'.over hk
          have hp2 := hp1.over hk
          clear hb1 ha1 hb1' hp1 hk
          go_wp2_with fail
          refine (lboth_any _ _ a' b' _ ha2 hb2').mono ?_
          rw [HB0.out]
          rintro e w3 ⟨rfl, hk⟩
          have hb3 := hb2.trans (hk.mono hb2.size)
          have ha3 := ha2.over hk
          have hb3' := hb2'.over hk
          have hp3 := hp2.over hk
          clear hb2 ha2 hb2' hp2 hk
          go_wp2_with fail
          refine (checkPairs_any _ _ _ a' b' p' _ ha3 hb3' hp3).mono ?_
          rw [HP0.out]
          rintro e w4 ⟨rfl, hk⟩
          have hb4 := hb3.trans (hk.mono hb3.size)
          have ha4 := ha3.over hk
          have hb4' := hb3'.over hk
          have hp4 := hp3.over hk
          clear hb3 ha3 hb3' hp3 hk
          go_wp2_with fail
          refine (score_any _ _ _ a' b' p' g _ ha4 hb4' hp4 HW.out.1 HW.out.2 HIR.out (by omega) (by omega) (by omega) hg0 hg1).mono ?_
          rintro e w5 ⟨rfl, hk⟩
          have hb5 := hb4.trans (hk.mono hb4.size)
          have ha5 := ha4.over hk
          have hb5' := hb4'.over hk
          have hp5 := hp4.over hk
          clear hb4 ha4 hb4' hp4 hk
          go_wp2_with fail
          go_ret
          exact ⟨rfl, hb5⟩
      · have HL : Hid (lscoreL a' b' p' g = (0, pairsL a' b' p')) := Lib.hid (by unfold lscoreL; rw [if_neg (by simp [h0]), if_neg (by simp [h1]), if_pos (by simp [h2])])
        obtain ⟨hg0, hg1⟩ := gapL_zero h1
        have hne : (pairsL a' b' p' != 0) = true := by simp [h2]
        have hne2 : (pairsL a' b' p' == 0) = false := by simp [h2]
        have HB0 := Lib.hid h0
        clear h0 h1 h2
        go_enter Try.func11, Try.ntmps11
        go_wp2_with fail
        go_quiet (first | (go_at_call 12; exact quiet_left (HA.out _)) | (go_at_call 12; exact quiet_left (HB.out _)))
        go_wp2_with fail
        all_goals
          first
            | (have e3 : m3 = n3 := by omega
               rw [e3] at hp')
            | (have e3 : m3 = 40 := by omega
               rw [e3] at hp')
          have hb0 := below_drewN hbA nq
          have ha0 := (ha'.below hb0).more hb0.size
          have hb0' := (hb'.below hb0).more hb0.size
          have hp0 := (hp'.below hb0).more hb0.size
          clear hbA
          refine (lscore_any _ _ _ a' b' p' g _ ha0 hb0' hp0).mono ?_
          rw [HL.out]
          rintro e w1 ⟨rfl, hk⟩
          have hb1 := hb0.trans (hk.mono hb0.size)
          have ha1 := ha0.over hk
          have hb1' := hb0'.over hk
          have hp1 := hp0.over hk
          clear hb0 ha0 hb0' hp0 hk
          go_wp2_with fail
          refine (known_any _).mono ?_
          rintro e w2 ⟨rfl, hk⟩
          have hb2 := hb1.trans (hk.mono hb1.size)
          have ha2 := ha1.over hk
          have hb2' := hb1'.over hk
          have hp2 := hp1.over hk
          clear hb1 ha1 hb1' hp1 hk
          go_wp2_with fail
          refine (lboth_any _ _ a' b' _ ha2 hb2').mono ?_
          rw [HB0.out]
          rintro e w3 ⟨rfl, hk⟩
          have hb3 := hb2.trans (hk.mono hb2.size)
          have ha3 := ha2.over hk
          have hb3' := hb2'.over hk
          have hp3 := hp2.over hk
          clear hb2 ha2 hb2' hp2 hk
          go_wp2_with fail
          refine (checkPairs_any _ _ _ a' b' p' _ ha3 hb3' hp3).mono ?_
          rintro e w4 ⟨rfl, hk⟩
          have hb4 := hb3.trans (hk.mono hb3.size)
          have ha4 := ha3.over hk
          have hb4' := hb3'.over hk
          have hp4 := hp3.over hk
          clear hb3 ha3 hb3' hp3 hk
          go_wp2_with fail
          go_ret
          exact ⟨rfl, hb4⟩
    · have hgl : gapL g = 2 := by unfold gapL at h1 ⊢; split at h1 <;> simp_all
      have HL : Hid (lscoreL a' b' p' g = (0, 2)) := Lib.hid (by unfold lscoreL; rw [if_neg (by simp [h0]), if_pos (by simp [h1]), hgl])
      have hgr : g < 0 ∨ 1000 < g := by
        unfold gapL at h1
        by_cases c : g < 0 ∨ 1000 < g
        · exact c
        · rw [if_neg c] at h1; exact absurd rfl h1
      have HB0 := Lib.hid h0
      clear h0 h1 hgl
      rcases Int.lt_or_le g 0 with hg0 | hg0
      · clear hgr
        go_enter Try.func11, Try.ntmps11
        go_wp2_with fail
        go_quiet (first | (go_at_call 12; exact quiet_left (HA.out _)) | (go_at_call 12; exact quiet_left (HB.out _)))
        go_wp2_with fail
        all_goals
          first
            | (have e3 : m3 = n3 := by omega
               rw [e3] at hp')
            | (have e3 : m3 = 40 := by omega
               rw [e3] at hp')
          have hb0 := below_drewN hbA nq
          have ha0 := (ha'.below hb0).more hb0.size
          have hb0' := (hb'.below hb0).more hb0.size
          have hp0 := (hp'.below hb0).more hb0.size
          clear hbA
          refine (lscore_any _ _ _ a' b' p' g _ ha0 hb0' hp0).mono ?_
          rw [HL.out]
          rintro e w1 ⟨rfl, hk⟩
          have hb1 := hb0.trans (hk.mono hb0.size)
          have ha1 := ha0.over hk
          have hb1' := hb0'.over hk
          have hp1 := hp0.over hk
          clear hb0 ha0 hb0' hp0 hk
          go_wp2_with fail
          refine (known_any _).mono ?_
          rintro e w2 ⟨rfl, hk⟩
          have hb2 := hb1.trans (hk.mono hb1.size)
          have ha2 := ha1.over hk
          have hb2' := hb1'.over hk
          have hp2 := hp1.over hk
          clear hb1 ha1 hb1' hp1 hk
          go_wp2_with fail
          refine (lboth_any _ _ a' b' _ ha2 hb2').mono ?_
          rw [HB0.out]
          rintro e w3 ⟨rfl, hk⟩
          have hb3 := hb2.trans (hk.mono hb2.size)
          have ha3 := ha2.over hk
          have hb3' := hb2'.over hk
          have hp3 := hp2.over hk
          clear hb2 ha2 hb2' hp2 hk
          go_wp2_with fail
          go_ret
          exact ⟨rfl, hb3⟩
      · have hg1 : 1000 < g := by omega
        clear hgr
        go_enter Try.func11, Try.ntmps11
        go_wp2_with fail
        go_quiet (first | (go_at_call 12; exact quiet_left (HA.out _)) | (go_at_call 12; exact quiet_left (HB.out _)))
        go_wp2_with fail
        all_goals
          first
            | (have e3 : m3 = n3 := by omega
               rw [e3] at hp')
            | (have e3 : m3 = 40 := by omega
               rw [e3] at hp')
          have hb0 := below_drewN hbA nq
          have ha0 := (ha'.below hb0).more hb0.size
          have hb0' := (hb'.below hb0).more hb0.size
          have hp0 := (hp'.below hb0).more hb0.size
          clear hbA
          refine (lscore_any _ _ _ a' b' p' g _ ha0 hb0' hp0).mono ?_
          rw [HL.out]
          rintro e w1 ⟨rfl, hk⟩
          have hb1 := hb0.trans (hk.mono hb0.size)
          have ha1 := ha0.over hk
          have hb1' := hb0'.over hk
          have hp1 := hp0.over hk
          clear hb0 ha0 hb0' hp0 hk
          go_wp2_with fail
          refine (known_any _).mono ?_
          rintro e w2 ⟨rfl, hk⟩
          have hb2 := hb1.trans (hk.mono hb1.size)
          have ha2 := ha1.over hk
          have hb2' := hb1'.over hk
          have hp2 := hp1.over hk
          clear hb1 ha1 hb1' hp1 hk
          go_wp2_with fail
          refine (lboth_any _ _ a' b' _ ha2 hb2').mono ?_
          rw [HB0.out]
          rintro e w3 ⟨rfl, hk⟩
          have hb3 := hb2.trans (hk.mono hb2.size)
          have ha3 := ha2.over hk
          have hb3' := hb2'.over hk
          have hp3 := hp2.over hk
          clear hb2 ha2 hb2' hp2 hk
          go_wp2_with fail
          go_ret
          exact ⟨rfl, hb3⟩
  · have HL : Hid (lscoreL a' b' p' g = (0, bothL a' b')) := Lib.hid (by unfold lscoreL; rw [if_pos (by simp [h0])])
    have hne : (bothL a' b' != 0) = true := by simp [h0]
    have hne2 : (bothL a' b' == 0) = false := by simp [h0]
    clear h0
    go_enter Try.func11, Try.ntmps11
    go_wp2_with fail
    go_quiet (first | (go_at_call 12; exact quiet_left (HA.out _)) | (go_at_call 12; exact quiet_left (HB.out _)))
    go_wp2_with fail
    all_goals
      first
        | (have e3 : m3 = n3 := by omega
           rw [e3] at hp')
        | (have e3 : m3 = 40 := by omega
           rw [e3] at hp')
      have hb0 := below_drewN hbA nq
      have ha0 := (ha'.below hb0).more hb0.size
      have hb0' := (hb'.below hb0).more hb0.size
      have hp0 := (hp'.below hb0).more hb0.size
      clear hbA
      refine (lscore_any _ _ _ a' b' p' g _ ha0 hb0' hp0).mono ?_
      rw [HL.out]
      rintro e w1 ⟨rfl, hk⟩
      have hb1 := hb0.trans (hk.mono hb0.size)
      have ha1 := ha0.over hk
      have hb1' := hb0'.over hk
      have hp1 := hp0.over hk
      clear hb0 ha0 hb0' hp0 hk
      go_wp2_with fail
      refine (known_any _).mono ?_
      rintro e w2 ⟨rfl, hk⟩
      have hb2 := hb1.trans (hk.mono hb1.size)
      have ha2 := ha1.over hk
      have hb2' := hb1'.over hk
      have hp2 := hp1.over hk
      clear hb1 ha1 hb1' hp1 hk
      go_wp2_with fail
      refine (lboth_any _ _ a' b' _ ha2 hb2').mono ?_
      rintro e w3 ⟨rfl, hk⟩
      have hb3 := hb2.trans (hk.mono hb2.size)
      have ha3 := ha2.over hk
      have hb3' := hb2'.over hk
      have hp3 := hp2.over hk
      clear hb2 ha2 hb2' hp2 hk
      go_wp2_with fail
      go_ret
      exact ⟨rfl, hb3⟩
end Go.Proofs.Ytbpegoekjlehcaa
