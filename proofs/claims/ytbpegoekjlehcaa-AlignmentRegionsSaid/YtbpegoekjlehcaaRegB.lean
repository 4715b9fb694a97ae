/- Walk: AlignmentRegions, right lists. -/
import Derived.Test.YtbpegoekjlehcaaRegA
namespace Go.Proofs.Ytbpegoekjlehcaa
open Go.RowKit
attribute [local go_sem] run_eq62 run_gd62

set_option maxRecDepth 100000 in
set_option maxHeartbeats 16000000 in
theorem reg_ok1 (A A2 A3 : Option Addr) (n m c n2 m2 c2 n3 m3 c3 : Nat) (a' b' p' : List Tok) (w : World) (ha' : Toks w w.heap.size (.slice A m c) a') (hb' : Toks w w.heap.size (.slice A2 m2 c2) b') (hp' : Toks w w.heap.size (.slice A3 m3 c3) p')
    (hm : m ≤ 40) (hm2 : m2 ≤ 40) (HM : Hid (m = a'.length)) (HM2 : Hid (m2 = b'.length)) (HA : Hid (∀ W : World, Calls Try.prog 12 #[.slice A n c] W fun e w' => e = .returned (.slice A m c) ∧ W = w')) (HB : Hid (∀ W : World, Calls Try.prog 12 #[.slice A2 n2 c2] W fun e w' => e = .returned (.slice A2 m2 c2) ∧ W = w'))
    (hc3m : c3 ≤ 9223372036854775807) (hmc3 : m3 ≤ c3) (hcase : n3 ≤ 40 ∧ m3 = n3) (h0 : bothL a' b' = 0) (h2 : pairsL a' b' p' = 0) :
    Calls Try.prog 10 #[.agg #[.slice A n c, .slice A2 n2 c2], .slice A3 n3 c3] w fun e w' => e = .returned (.bool true) ∧ Below w.heap.size w w' := by
  have hbA : Below w.heap.size w (w.alloc (.cells #[.slice A n c, .slice A2 n2 c2] 24)) := (Below.refl _ _).alloc (Nat.le_refl _) _
  have hm3e : m3 = n3 := hcase.2
  have hn40 : n3 ≤ 40 := hcase.1
  clear hcase
  subst hm3e
  obtain ⟨f3, f4⟩ := bothL_len h0
  have hI := inc_of_pairs a' b' p' (-1) (-1) h2 (by omega) (by omega)
  have hLP : lpairsL a' b' p' = 0 := by unfold lpairsL; rw [if_neg (by simp [h0])]; exact h2
  have HLP := Lib.hid hLP
  obtain ⟨L, hL⟩ : ∃ L, L = regs a'.length b'.length (p'.length + 1) p' 0 0 := ⟨_, rfl⟩
  have HLR : Hid (lregsL a' b' p' = L) := Lib.hid (by unfold lregsL; rw [if_pos hLP, hL])
  have HOK : Hid (RegOK a'.length b'.length p' none L 0 0 0) := Lib.hid (by rw [hL]; exact regs_ok _ _ p' _ p' 0 0 0 none rfl (Nat.zero_le _) (by omega) hI (.inl rfl))
  have hpl := hI.len
  have HB0 := Lib.hid h0
  have HP0 := Lib.hid h2
  clear h0 h2 hI hLP hL
  go_enter Try.func10, Try.ntmps10
  go_wp2_with fail
  go_quiet (first | (go_at_call 12; exact quiet_left (HA.out _)) | (go_at_call 12; exact quiet_left (HB.out _)))
  go_wp2_with fail
  all_goals
    have hb0 := below_drewN hbA nq
    have ha0 := (ha'.below hb0).more hb0.size
    have hb0' := (hb'.below hb0).more hb0.size
    have hp0 := (hp'.below hb0).more hb0.size
    clear hbA
    refine (lregions_any _ _ _ a' b' p' _ ha0 hb0' hp0).mono ?_
    rw [HLP.out, HLR.out]
    rintro e w1 ⟨vl, rfl, hown, hk⟩
    have hl1 := hown.sl encR_length
    have hb1 := hb0.trans (hk.mono hb0.size)
    have ha1 := ha0.over hk
    have hb1' := hb0'.over hk
    have hp1 := hp0.over hk
    clear hb0 ha0 hb0' hp0 hk hown
    obtain ⟨AL, cL, rfl, hLc, hLm, _⟩ := hl1.reg
    go_wp2_with fail
    refine (known_any _).mono ?_
    rintro e w2 ⟨rfl, hk⟩
    have hb2 := hb1.trans (hk.mono hb1.size)
    have ha2 := ha1.over hk
    have hb2' := hb1'.over hk
    have hp2 := hp1.over hk
    have hl2 := hl1.over hk
    clear hb1 ha1 hb1' hp1 hl1 hk
    go_wp2_with fail
    refine (lboth_any _ _ a' b' _ ha2 hb2').mono ?_
    rw [HB0.out]
    rintro e w3 ⟨rfl, hk⟩
    have hb3 := hb2.trans (hk.mono hb2.size)
    have ha3 := ha2.over hk
    have hb3' := hb2'.over hk
    have hp3 := hp2.over hk
    have hl3 := hl2.over hk
    clear hb2 ha2 hb2' hp2 hl2 hk
    go_wp2_with fail
    refine (checkPairs_any _ _ _ a' b' p' _ ha3 hb3' hp3).mono ?_
    rw [HP0.out]
    rintro e w4 ⟨rfl, hk⟩
    have hb4 := hb3.trans (hk.mono hb3.size)
    have ha4 := ha3.over hk
    have hb4' := hb3'.over hk
    have hp4 := hp3.over hk
    have hl4 := hl3.over hk
    clear hb3 ha3 hb3' hp3 hl3 hk
    go_wp2_with fail
    have hmn : m = a'.length := HM.out
    have hmn2 : m2 = b'.length := HM2.out
    have HMA := Lib.hid hmn
    have HMB := Lib.hid hmn2
    obtain ⟨_, _, ev, _, _, HP⟩ := hp4.tok
    rw [Value.slice.injEq] at ev
    obtain ⟨ev1, ev2, ev3⟩ := ev
    subst ev1
    have HEV := Lib.hid ev2
    clear ev2 ev3
    obtain ⟨_, _, ev, _, _, HL⟩ := hl4.reg
    rw [Value.slice.injEq] at ev
    obtain ⟨ev1, -, -⟩ := ev
    subst ev1
    have HP := Lib.hid HP
    have HL := Lib.hid HL
    clear hmn hmn2 hp4 hl4 ha4 hb4' hb'
    obtain ⟨wo, hwo⟩ : ∃ wo : World, wo = w4 := ⟨_, rfl⟩
    rw [← hwo] at HP HL hb4 ⊢
    clear hwo
    have hbo := hb4.size
    go_loopw [10, 11, 12, 13] (fun iv jv kv nv wr => ∃ (n k : Nat) (i j : Int), n ≤ L.length ∧ iv = .int .i64 i ∧ jv = .int .i64 j ∧ kv = .int .i64 k ∧ nv = .int .i64 n ∧ 0 ≤ i ∧ 0 ≤ j ∧ Hid (RegOK a'.length b'.length p' (prevS L n) (L.drop n) i j k) ∧ Below wo.heap.size wo wr) (fun _ _ _ nv _ => L.length - (intOf nv).toNat)
    case atStart => exact ⟨0, 0, 0, 0, Nat.zero_le _, rfl, rfl, rfl, rfl, by omega, by omega, HOK, Below.refl _ _⟩
    case round =>
      obtain ⟨n, k, i, j, hn, rfl, rfl, rfl, rfl, hi, hj, HR, hbr⟩ := hrel
      have hbz := hbr.size
      have hle := HR.out.le
      by_cases hlt : n < L.length
      · have HRO := HR.out
        rw [List.drop_eq_getElem_cons hlt] at HRO
        obtain ⟨bL, oL, hAL, hbL, g0, g1, g2, g3, g4⟩ := (HL.out.below hbr) n hlt
        subst hAL
        have HPS := Lib.hid (prevS_succ L n hlt)
        obtain ⟨x, hx⟩ : ∃ x, x = L[n] := ⟨_, rfl⟩
        rw [← hx] at HRO g0 g1 g2 g3 g4 HPS
        clear hx
        obtain ⟨x0, x1, x2, x3, x4⟩ := x
        obtain ⟨q1, q2, q3, q4, q5, q6, q7, q8, q9⟩ := HRO
        simp only at q1 q2 q3 q4 q5 q6 q7 q8 q9 g0 g1 g2 g3 g4 HPS
        subst q1 q2
        have hle9 := q9.le
        have Q9 := Lib.hid q9
        have hx1b : x1 ≤ 2048 := by omega
        have hx3b : x3 ≤ 2048 := by omega
        have hbL' : bL < wr.heap.size := by omega
        have d1 : decide (x1 < x0) = false := by simp; omega
        have d2 : decide (x3 < x2) = false := by simp; omega
        have d3 : (x1 + x3 == x0 + x2) = false := by rw [beq_eq_false_iff_ne]; omega
        clear q9 HR hle9
        go_upto_region 15 with fail
        go_cut [130] from 64 to 201 (fun s130 wx => s130 = .bool false ∧ wx = wr.alloc (.cells #[.int .i64 x0, .int .i64 x1, .int .i64 x2, .int .i64 x3, .bool x4] 60))
        case first =>
          by_cases hn0 : 0 < n
          · obtain ⟨m9, rfl⟩ : ∃ m9, n = m9 + 1 := ⟨n - 1, by omega⟩
            obtain ⟨b9, o9, hA9, _, _, _, _, _, g9⟩ := (HL.out.below hbr) m9 (by omega)
            injection hA9 with hA9
            injection hA9 with hb9 ho9
            subst hb9 ho9
            rw [prevS_succ L m9 (by omega)] at q6
            have q6' : L[m9].2.2.2.2 = !x4 := bool_ne q6
            rw [q6'] at g9
            clear q6 q6'
            cases x4
            · simp only [Bool.not_false] at g9
              as_aux_lemma =>
              go_wp2_with fail
              go_meet
              case rel => exact ⟨rfl, rfl⟩
            · simp only [Bool.not_true] at g9
              as_aux_lemma =>
              go_wp2_with fail
              go_meet
              case rel => exact ⟨rfl, rfl⟩
          · have dn0 : decide (0 < n) = false := by simpa using hn0
            clear q6
            cases x4
            · as_aux_lemma =>
              go_wp2_with fail
              go_meet
              case rel => exact ⟨rfl, rfl⟩
            · as_aux_lemma =>
              go_wp2_with fail
              go_meet
              case rel => exact ⟨rfl, rfl⟩
        case rest =>
          obtain ⟨rfl, rfl⟩ := hcut
          clear q6 d1 d2 d3
          cases x4
          · as_aux_lemma =>
            have HQ8 := Lib.hid (q8 rfl)
            clear q7 q8
            go_wp2_with fail
            go_loop [10, 11, 12] (fun iv jv kv => iv = .int .i64 x0 ∧ jv = .int .i64 x2 ∧ kv = .int .i64 k) (fun _ _ _ => 0)
            case atStart => exact ⟨rfl, rfl, rfl⟩
            case round =>
              obtain ⟨rfl, rfl, rfl⟩ := hrel
              by_cases hkl : k < p'.length
              · obtain ⟨b7, o7, hA7, hb7, y0, y1⟩ := (HP.out.below hbr) k hkl
                subst hA7
                obtain ⟨e0, e1⟩ := HQ8.out p'[k] (List.getElem?_eq_getElem hkl)
                obtain ⟨z, hz⟩ : ∃ z, z = p'[k] := ⟨_, rfl⟩
                rw [← hz] at y0 y1 e0 e1
                clear hz
                obtain ⟨za, zb⟩ := z
                simp only at y0 y1 e0 e1
                have hkl2 := hkl
                rw [← HEV.out] at hkl2
                have d7 : decide (za < x1) = false := by simp; omega
                have d8 : decide (zb < x3) = false := by simp; omega
                have hb7' : b7 < wr.heap.size := by omega
                clear hkl
                go_wp2_with fail

                go_quiet (fail)
                go_wp2_with fail
                go_quiet (fail)
                go_wp2_with fail
                go_roundw
                case rel => exact ⟨n + 1, k, x1, x3, by omega, rfl, rfl, rfl, by go_num, by omega, by omega, Lib.hid (by rw [HPS.out]; exact Q9.out), below_drewN (hbr.alloc hbz _) _⟩
                case measure => simp [intOf]; omega
              · have hkl2 : decide (k < p'.length) = false := by simp; omega
                rw [← HEV.out] at hkl2
                clear hkl
                go_wp2_with fail

                go_quiet (fail)
                go_wp2_with fail
                go_quiet (fail)
                go_wp2_with fail
                go_roundw
                case rel => exact ⟨n + 1, k, x1, x3, by omega, rfl, rfl, rfl, by go_num, by omega, by omega, Lib.hid (by rw [HPS.out]; exact Q9.out), below_drewN (hbr.alloc hbz _) _⟩
                case measure => simp [intOf]; omega
          · as_aux_lemma =>
            have hq7 := q7 rfl
            obtain ⟨r, hr⟩ : ∃ r : Nat, x1 = x0 + r := ⟨(x1 - x0).toNat, by omega⟩
            have HRr := Lib.hid hr
            have HQ7 : Hid (x3 = x2 + r ∧ ∀ t : Nat, t < r → p'[k + t]? = some (x0 + t, x2 + t)) := Lib.hid ⟨by omega, fun t ht => hq7.2 t (by omega)⟩
            have hr2048 : r ≤ 2048 := by omega
            clear hr hq7 q7 q8
            go_wp2_with fail
            go_loop [10, 11, 12] (fun iv jv kv => ∃ (t kk : Nat) (ii jj : Int), t ≤ r ∧ Hid (kk = k + t ∧ ii = x0 + t ∧ jj = x2 + t) ∧ iv = .int .i64 ii ∧ jv = .int .i64 jj ∧ kv = .int .i64 kk) (fun iv _ _ => (x1 - intOf iv).toNat)
            case atStart => exact ⟨0, k, x0, x2, Nat.zero_le _, Lib.hid ⟨rfl, by omega, by omega⟩, rfl, rfl, rfl⟩
            case round =>
              obtain ⟨t, kk, ii, jj, ht, HT, rfl, rfl, rfl⟩ := hrel
              have hx13 : x0 + r = x1 ∧ x2 + r = x3 := ⟨HRr.out.symm, HQ7.out.1.symm⟩
              have hbd : 0 ≤ ii ∧ ii ≤ 5000 ∧ 0 ≤ jj ∧ jj ≤ 5000 ∧ kk ≤ 5000 := by have := HT.out; omega
              obtain ⟨bd1, bd2, bd3, bd4, bd5⟩ := hbd
              by_cases htr : t < r
              · have hg := HQ7.out.2 t htr
                rw [← HT.out.1, ← HT.out.2.1, ← HT.out.2.2] at hg
                obtain ⟨hkl, hke⟩ := List.getElem?_eq_some_iff.1 hg
                obtain ⟨b7, o7, hA7, hb7, y0, y1⟩ := (HP.out.below hbr) kk hkl
                subst hA7
                rw [hke] at y0 y1
                simp only at y0 y1
                have hkl2 := hkl
                rw [← HEV.out] at hkl2
                have dk : ¬ (_ ≤ kk) := Nat.not_le.2 hkl2
                have hit : ii < x1 := by have := HT.out; omega
                have hb7' : b7 < wr.heap.size := by omega
                clear hg hke hx13 hkl
                go_wp2_with fail
                go_round
                case rel => exact ⟨t + 1, kk + 1, ii + 1, jj + 1, by omega, Lib.hid (by have := HT.out; omega), by go_num, by go_num, by go_num⟩
                case measure => simp [intOf]; omega
              · have htr' : t = r := by omega
                have hit : x1 ≤ ii := by have := HT.out; omega
                have hjj : (jj != x3) = false := by rw [bne_eq_false_iff_eq]; have := HT.out; omega
                have HKK : Hid (kk = if true = true then k + (x1 - x0).toNat else k) := Lib.hid (by rw [if_pos rfl]; have := HT.out; omega)
                clear htr' hx13
                go_wp2_with fail
                go_quiet (fail)
                go_wp2_with fail
                go_quiet (fail)
                go_wp2_with fail
                go_roundw
                case rel => exact ⟨n + 1, kk, x1, x3, by omega, rfl, rfl, rfl, by go_num, by omega, by omega, Lib.hid (by rw [HPS.out, HKK.out]; exact Q9.out), below_drewN (hbr.alloc hbz _) _⟩
                case measure => simp [intOf]; omega
      · as_aux_lemma =>
        have HEND := HR.out
        rw [List.drop_of_length_le (by omega)] at HEND
        obtain ⟨r1, r2, r3⟩ := HEND
        rw [← HMA.out] at r1
        rw [← HMB.out] at r2
        rw [← HEV.out] at r3
        subst r1 r2 r3
        go_wp2_with fail
        go_ret
        exact ⟨rfl, hb4.trans (hbr.mono hbo)⟩
end Go.Proofs.Ytbpegoekjlehcaa
