/- Walk: the score of pairs, as the model goes over them. -/
import Derived.Test.YtbpegoekjlehcaaW3
namespace Go.Proofs.Ytbpegoekjlehcaa
open Go.RowKit

theorem wt_bound (l : List Tok) (h : WOk l) (i : Int) : 0 ≤ wt l i ∧ wt l i ≤ 1000 := by
  unfold wt
  by_cases hi : i.toNat < l.length
  · rw [List.getElem?_eq_getElem hi]
    have := h l[i.toNat] (by simp)
    simp; omega
  · rw [List.getElem?_eq_none (by omega)]; simp

set_option maxHeartbeats 1000000 in
theorem score_any (va vb vp : Value) (a b p : List Tok) (g : Int) (w : World) (ha : Toks w w.heap.size va a) (hb : Toks w w.heap.size vb b) (hp : Toks w w.heap.size vp p)
    (hwa : WOk a) (hwb : WOk b) (hin : InR a b p) (hpl : p.length ≤ 4096) (hal : a.length ≤ 4096) (_hbl : b.length ≤ 4096) (hg0 : 0 ≤ g) (hg1 : g ≤ 1000) :
    Calls Try.prog 19 #[va, vb, vp, .int .i64 g] w fun e w' => e = .returned (.int .i64 (scoreL a b g p)) ∧ Below w.heap.size w w' := by
  obtain ⟨A, c, rfl, hn, hc, HA⟩ := ha.tok
  obtain ⟨A', c', rfl, hn', hc', HB⟩ := hb.tok
  obtain ⟨A'', c'', rfl, hn'', hc'', HP⟩ := hp.tok
  clear ha hb hp
  go_enter Try.func19, Try.ntmps19
  go_wp2
  go_loopw [9, 10, 11, 12] (fun n i j k wr => ∃ (kk : Nat) (nn ii jj : Int), kk ≤ p.length ∧ n = .int .i64 nn ∧ i = .int .i64 ii ∧ j = .int .i64 jj ∧ k = .int .i64 kk ∧
      -2000 * kk ≤ nn ∧ nn ≤ 2000 * kk ∧ scoreL a b g p = scoreF a b g (p.drop kk) nn ii jj ∧ Below w.heap.size w wr) (fun _ _ _ i _ => p.length - (intOf i).toNat)
  case atStart => exact ⟨0, 0, 0, 0, Nat.zero_le _, rfl, rfl, rfl, rfl, by omega, by omega, rfl, Below.refl _ _⟩
  case round =>
    obtain ⟨k, n, i, j, hk, rfl, rfl, rfl, rfl, hn1, hn2, hsc, hb⟩ := hrel
    have HSC := Lib.hid hsc; clear hsc
    have hbz := hb.size
    by_cases hlt : k < p.length
    · have HS := Lib.hid (scoreF_drop a b g p k hlt n i j)
      have hir := hin p[k] (by simp)
      obtain ⟨x, hx⟩ : ∃ x, x = p[k] := ⟨_, rfl⟩
      obtain ⟨b3, o3, rfl, hbB3, g31, g32⟩ := (HP.below hb) k hlt
      rw [← hx] at HS hir g31 g32
      clear hx
      obtain ⟨xa, xb⟩ := x
      obtain ⟨hx1, hx2, hx3, hx4⟩ := hir
      simp only at hx1 hx2 hx3 hx4 g31 g32
      obtain ⟨ia, rfl⟩ := Int.eq_ofNat_of_zero_le hx1
      obtain ⟨ib, rfl⟩ := Int.eq_ofNat_of_zero_le hx3
      have hia : ia < a.length := by omega
      have hib : ib < b.length := by omega
      obtain ⟨b1, o1, rfl, hbB1, g11, g12⟩ := (HA.below hb) ia hia
      obtain ⟨b2, o2, rfl, hbB2, g21, g22⟩ := (HB.below hb) ib hib
      have hw1 := hwa a[ia] (by simp)
      have hw2 := hwb b[ib] (by simp)
      have HW1 := Lib.hid (wt_at a ia hia)
      have HW2 := Lib.hid (wt_at b ib hib)
      clear hx1 hx2 hx3 hx4
      have HM : Hid (min a[ia].2 b[ib].2 = if a[ia].2 ≤ b[ib].2 then a[ia].2 else b[ib].2) := Lib.hid (Int.min_def ..)
      by_cases hm : a[ia].2 ≤ b[ib].2
      all_goals
        go_wp2
        all_goals
          go_quiet (fail)
          go_wp2
          go_quiet (fail)
          go_wp2
          go_roundw
          case rel =>
            refine ⟨k + 1, _, _, _, by omega, rfl, rfl, rfl, by go_num, by omega, by omega, ?_, below_drewN hb _⟩
            rw [HSC.out, HS.out, HW1.out, HW2.out, HM.out]
            first
              | rw [if_pos (by omega), if_pos (by omega)]
              | rw [if_pos (by omega), if_neg (by omega)]
              | rw [if_neg (by omega), if_pos (by omega)]
              | rw [if_neg (by omega), if_neg (by omega)]
          case measure => simp [intOf]; omega
    · have HE : Hid (scoreL a b g p = if i < a.length ∨ j < b.length then n - g else n) := Lib.hid (by rw [HSC.out, List.drop_of_length_le (by omega)]; rfl)
      go_wp2
      all_goals
        go_ret
        refine ⟨ret_int ?_, hb⟩
        rw [HE.out]
        first
          | rw [if_pos (by omega)]
          | rw [if_neg (by omega)]

end Go.Proofs.Ytbpegoekjlehcaa
