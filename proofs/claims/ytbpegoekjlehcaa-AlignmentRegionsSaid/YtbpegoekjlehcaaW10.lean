/- Walk: Align. -/
import Derived.Test.YtbpegoekjlehcaaW9
namespace Go.Proofs.Ytbpegoekjlehcaa
open Go.RowKit

/-- The canonical alignment, or nothing behind an error. -/
def alignR (a b : List Tok) (g : Int) : List Tok := if (bestL a b g).2 = 0 then alignL a b g else []

set_option maxRecDepth 100000 in
set_option maxHeartbeats 4000000 in
theorem align_any (va vb : Value) (a b : List Tok) (g : Int) (w : World) (ha : Toks w w.heap.size va a) (hb : Toks w w.heap.size vb b) :
    Calls Try.prog 13 #[va, vb, .int .i64 g] w fun e w' => ∃ v, e = .returned (.tuple #[v, .int .i64 (bestL a b g).2]) ∧
      Own encT 2 62 w' w.heap.size v (alignR a b g) ∧ Below w.heap.size w w' := by
  have H1 := Lib.hid (both_any va vb a b w ha hb)
  by_cases h0 : bothL a b = 0
  · have hb0 : (bothL a b != 0) = false := by simp [h0]
    by_cases h1 : gapL g = 0
    · have hg0 : (gapL g != 0) = false := by simp [h1]
      have HR : Hid (bestL a b g = (oT g a b 0 0 0, 0)) := Lib.hid (by unfold bestL; rw [if_neg (by simp [h0]), if_neg (by simp [h1])])
      have HF := Lib.hid (And.intro (bothL_zero h0) (gapL_zero h1))
      clear h0 h1
      obtain ⟨i0, hi, hz0, hz1, hz2⟩ := info_parts info62
      obtain ⟨A, c, hva, hn, hc, _⟩ := ha.tok
      obtain ⟨A', c', hvb, hn', hc', _⟩ := hb.tok
      subst hva hvb
      go_enter Try.func13, Try.ntmps13
      go_wp2_with fail
      refine H1.out.mono ?_
      rintro e w1 ⟨rfl, hb1⟩
      go_wp2_with fail
      refine (gap_any g w1).mono ?_
      rintro e w2 ⟨rfl, rfl⟩
      go_wp2_with fail
      obtain ⟨⟨f1, f2, f3, f4⟩, f5, f6⟩ := HF.out
      refine (solve_any _ _ a b g w1 (ha.over hb1) (hb.over hb1) f1 f2 f3 f4 f5 f6).mono ?_
      rintro e w3 ⟨v, rfl, hT, hb3⟩
      obtain ⟨C, rc, rfl, hC, hrc⟩ := hT
      clear f1 f2 f3 f4 f5 f6 hb0 hg0
      obtain ⟨wd, hwd⟩ : ∃ wd : Nat, wd = b.length + 1 := ⟨_, rfl⟩
      obtain ⟨P, hP⟩ : ∃ P : Nat, P = (a.length + 1) * wd := ⟨_, rfl⟩
      rw [← hwd, ← hP]
      simp only [sl]
      have hPb : P ≤ 2049 * 2049 := by rw [hP]; exact Nat.mul_le_mul (by have := HF.out.1.2.2.1; omega) (by have := HF.out.1.2.2.2; omega)
      have hal : a.length ≤ 2048 := HF.out.1.2.2.1
      have hbl : b.length ≤ 2048 := HF.out.1.2.2.2
      have HWD := Lib.hid hwd
      have HP := Lib.hid hP
      have HC := Lib.hid hC
      have HRC := Lib.hid hrc
      have hb03 : Below w.heap.size w w3 := hb1.trans (hb3.mono hb1.size)
      clear hwd hP hC hrc
      obtain ⟨T, hT⟩ : ∃ T, T = w3.heap.size := ⟨_, rfl⟩
      obtain ⟨W4, hW4⟩ : ∃ W4 : World, W4 = w3.alloc (.cells #[.int .i64 (oT g a b 0 0 0), sl (C 0) P, sl (C 1) P, .int .i64 wd] 68) := ⟨_, rfl⟩
      have HB4 : Hid (Below w.heap.size w W4) := Lib.hid (by rw [hW4]; exact hb03.alloc hb03.size _)
      have HT4 : Hid (W4.heap[T]? = some (.cells #[.int .i64 (oT g a b 0 0 0), sl (C 0) P, sl (C 1) P, .int .i64 wd] 68 (0, 0))) := Lib.hid (by rw [hW4, hT]; exact heap_alloc_new _ _)
      have HC4 : Hid (∀ s, s < 2 → W4.rowIs (C s) 5 P (fun q => .int .u8 (rc s q))) := Lib.hid (by
        intro s hs
        have := (HC.out s hs).2
        rw [← HWD.out, ← HP.out] at this
        rw [hW4]
        exact this.alloc _)
      have HW4 : Hid (w3.alloc (.cells #[.int .i64 (oT g a b 0 0 0), .slice (some ⟨C 0, 0, none⟩) P P, .slice (some ⟨C 1, 0, none⟩) P P, .int .i64 wd] 68) = W4) := Lib.hid hW4.symm
      have HTE := Lib.hid hT
      have hz4 : w.heap.size ≤ W4.heap.size := HB4.out.size
      clear hT hW4
      go_wp2_with fail
      rw [HW4.out, ← HTE.out]
      clear HW4 HTE
      go_loopw [11, 12, 13, 14] (fun out iv kv sv wr => ∃ (i k s : Nat) (o : List Tok), i ≤ a.length ∧ k ≤ b.length ∧ s < 2 ∧ o.length ≤ i ∧ iv = .int .i64 i ∧ kv = .int .i64 k ∧ sv = .int .i64 s ∧
          Own encT 2 62 wr W4.heap.size out o ∧ Hid (o ++ pathP g (a.drop i) (b.drop k) s i k = alignL a b g) ∧ Below W4.heap.size W4 wr) (fun _ iv kv _ _ => (a.length - intOf iv).toNat + (b.length - intOf kv).toNat)
      case atStart => exact ⟨0, 0, 0, [], Nat.zero_le _, Nat.zero_le _, by omega, Nat.zero_le _, rfl, rfl, rfl, Own.nil _ _, Lib.hid rfl, Below.refl _ _⟩
      case round =>
        obtain ⟨i, k, s, o, hil, hkl, hs2, hol, rfl, rfl, rfl, hown, HSC, hbr⟩ := hrel
        have hbz := hbr.size
        by_cases hgo : i < a.length ∧ k < b.length
        · obtain ⟨hia, hkb⟩ := hgo
          have HS := Lib.hid (pathP_step g a b i k s hia hkb)
          have hq : i * wd + k < P := by
            have := HWD.out
            have h2 : (i + 1) * wd ≤ (a.length + 1) * wd := Nat.mul_le_mul_right _ (by omega)
            rw [Nat.succ_mul, ← HP.out] at h2
            omega
          have hT := (hbr.block _ (lt_of_block HT4.out)).trans HT4.out
          have hCs := (HC4.out s hs2).of_block (hbr.block _ (HC4.out s hs2).lt)
          have c1 : wr.cell? ⟨T, 1 + s, none⟩ = some (.slice (some ⟨C s, 0, none⟩) P P) := by
            rw [blk_cell hT (1 + s)]
            match s, hs2 with
            | 0, _ => rfl
            | 1, _ => rfl
          have c2 : wr.cell? ⟨T, 3, none⟩ = some (.int .i64 wd) := blk_cell hT 3
          have hrc : rc s (i * wd + k) = cT g a b i k s := by
            have := HRC.out i k s hil hkl hs2
            rwa [← HWD.out] at this
          have c3 : wr.cell? ⟨C s, i * wd + k, none⟩ = some (.int .u8 (cT g a b i k s)) := by rw [hCs.cell hq, hrc]
          obtain ⟨m, hm⟩ : ∃ m, m = i * wd := ⟨_, rfl⟩
          have hmI : (i : Int) * (wd : Int) = (m : Int) := by rw [hm]; simp
          rw [← hm] at c3 hq
          have hw1 : IntKind.i64.wrap ((i : Int) * (wd : Int)) = (m : Int) := by rw [hmI, IntWalk.i64_in _ (by omega)]
          have hw2 : IntKind.i64.wrap ((m : Int) + (k : Int)) = ((m + k : Nat) : Int) := by rw [IntWalk.i64_in _ (by omega)]; omega
          have hqI : ((m + k : Nat) : Int) < (P : Int) := by omega
          have hq0 : (0 : Int) ≤ ((m + k : Nat) : Int) := by omega
          have hsI : (s : Int) < 2 := by omega
          clear hT hCs hrc hm hmI
          by_cases e1 : cT g a b i k s = 1
          · have HF1 : Hid ((o ++ [((i : Int), (k : Int))]) ++ pathP g (a.drop (i + 1)) (b.drop (k + 1)) 0 (i + 1) (k + 1) = alignL a b g) := Lib.hid (by rw [← HSC.out, HS.out, if_pos e1, List.append_assoc]; rfl)
            rw [e1] at c3
            clear e1
            go_wp2
            go_quiet (fail)
            clear hw1 hw2 hqI hq0
            go_wp2_with (at_builtin; refine wpList_push _ rfl _ _ 26 rfl W4.heap.size 62 i0 _ 2 16 Try.underlying26 hi hz0 hz1 hz2 rfl (by decide) encT_length encT_one _ _ rfl (hown.drewN nq |>.alloc _) _ _ ((i : Int), (k : Int)) rfl (cells_new _ _ _) ?c1 ?c2 ?c3 ?_)
            case c1 => omega
            case c2 => omega
            case c3 => simp; omega
            intro v' w5 hown1 hg1
            have hb5 : Below W4.heap.size W4 w5 := ((below_drewN hbr nq).alloc hbz _).grown hg1 (by simp; omega) (fun q hq => (hown.lt q hq).1)
            clear hown
            go_wp2
            go_roundw
            case rel => exact ⟨i + 1, k + 1, 0, _, by omega, by omega, by omega, by simp; omega, by go_num, by go_num, rfl, hown1, HF1, hb5⟩
            case measure => simp [intOf]; omega
          · by_cases e2 : cT g a b i k s = 2
            · have HF1 : Hid (o ++ pathP g (a.drop (i + 1)) (b.drop k) 1 (i + 1) k = alignL a b g) := Lib.hid (by rw [← HSC.out, HS.out, if_neg e1, if_pos e2])
              rw [e2] at c3
              clear e1 e2
              go_wp2
              go_quiet (fail)
              clear hw1 hw2 hqI hq0
              go_wp2
              go_roundw
              case rel => exact ⟨i + 1, k, 1, o, by omega, by omega, by omega, by omega, by go_num, rfl, rfl, hown.drewN _, HF1, below_drewN hbr _⟩
              case measure => simp [intOf]; omega
            · have HF1 : Hid (o ++ pathP g (a.drop i) (b.drop (k + 1)) 1 i (k + 1) = alignL a b g) := Lib.hid (by rw [← HSC.out, HS.out, if_neg e1, if_neg e2])
              obtain ⟨cc, hcc⟩ : ∃ cc, cc = cT g a b i k s := ⟨_, rfl⟩
              rw [← hcc] at c3 e1 e2
              have q1 : ((cc : Int) == 1) = false := by rw [beq_eq_false_iff_ne]; omega
              have q2 : ((cc : Int) == 2) = false := by rw [beq_eq_false_iff_ne]; omega
              clear hcc
              go_wp2
              go_quiet (fail)
              clear hw1 hw2 hqI hq0
              go_wp2
              go_roundw
              case rel => exact ⟨i, k + 1, 1, o, by omega, by omega, by omega, by omega, rfl, by go_num, rfl, hown.drewN _, HF1, below_drewN hbr _⟩
              case measure => simp [intOf]; omega
        · have HE : Hid (o = alignL a b g) := Lib.hid (by rw [← HSC.out, pathP_nil g a b i k s (by omega), List.append_nil])
          go_wp2
          all_goals
            go_ret2
            refine ⟨u11, ?_, ?_, HB4.out.trans (hbr.mono hz4)⟩
            · rw [HR.out]; rfl
            · rw [alignR, HR.out, if_pos rfl, ← HE.out]; exact hown.lower hz4
    · have hg0 : (gapL g != 0) = true := by simp [h1]
      have HR : Hid (bestL a b g = (0, gapL g)) := Lib.hid (by unfold bestL; rw [if_neg (by simp [h0]), if_pos (by simp [h1])])
      have HN := Lib.hid h1
      clear h0 h1
      go_enter Try.func13, Try.ntmps13
      go_wp2_with fail
      refine H1.out.mono ?_
      rintro e w1 ⟨rfl, hb1⟩
      go_wp2_with fail
      refine (gap_any g w1).mono ?_
      rintro e w2 ⟨rfl, rfl⟩
      go_wp2_with fail
      go_ret2
      refine ⟨.slice none 0 0, ?_, ?_, hb1⟩
      · rw [HR.out]; rfl
      · rw [alignR, HR.out, if_neg HN.out]; exact Own.nil _ _
  · have hb0 : (bothL a b != 0) = true := by simp [h0]
    have HR : Hid (bestL a b g = (0, bothL a b)) := Lib.hid (by unfold bestL; rw [if_pos (by simp [h0])])
    have HN := Lib.hid h0
    clear h0
    go_enter Try.func13, Try.ntmps13
    go_wp2_with fail
    refine H1.out.mono ?_
    rintro e w1 ⟨rfl, hb1⟩
    go_wp2_with fail
    go_ret2
    refine ⟨.slice none 0 0, ?_, ?_, hb1⟩
    · rw [HR.out]; rfl
    · rw [alignR, HR.out, if_neg HN.out]; exact Own.nil _ _

end Go.Proofs.Ytbpegoekjlehcaa
