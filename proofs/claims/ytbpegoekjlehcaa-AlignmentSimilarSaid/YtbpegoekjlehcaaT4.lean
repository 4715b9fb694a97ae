/- Walk: the model's canonical alignment. -/
import Derived.Test.YtbpegoekjlehcaaT3
import Derived.Test.YtbpegoekjlehcaaW2
namespace Go.Proofs.Ytbpegoekjlehcaa
open Go.RowKit

set_option maxRecDepth 100000 in
set_option maxHeartbeats 4000000 in
theorem malign_any (va vb : Value) (a b : List Tok) (g : Int) (w : World) (ha : Toks w w.heap.size va a) (hb : Toks w w.heap.size vb b)
    (hwa : WOk a) (hwb : WOk b) (hal : a.length ≤ 2048) (hbl : b.length ≤ 2048) (hg0 : 0 ≤ g) (hg1 : g ≤ 1000) :
    Calls Try.prog 17 #[va, vb, .int .i64 g] w fun e w' => ∃ v, e = .returned v ∧ Own encT 2 62 w' w.heap.size v (alignL a b g) ∧ Below w.heap.size w w' := by
  have HFill := Lib.hid (fill_any va vb a b g w ha hb hwa hwb hal hbl hg0 hg1)
  obtain ⟨i0, hi, hz0, hz1, hz2⟩ := info_parts info62
  obtain ⟨A, c, rfl, hn, hc, HA⟩ := ha.tok
  obtain ⟨A', c', rfl, hn', hc', HB⟩ := hb.tok
  clear ha hb
  go_enter Try.func17, Try.ntmps17
  go_wp2_with fail
  refine HFill.out.mono ?_
  rintro e W4 ⟨v, rfl, hF, hb4⟩
  obtain ⟨G, F, cap, R, rfl, hG, hrow, hcell⟩ := hF
  have HG := Lib.hid hG
  have HROW := Lib.hid hrow
  have HCELL := Lib.hid hcell
  have HB4 := Lib.hid hb4
  have hz4 := hb4.size
  clear hG hrow hcell hb4 HFill
  go_wp2_with fail
  go_loopw [8, 9, 10, 11] (fun out iv kv sv wr => ∃ (i k s : Nat) (o : List Tok), i ≤ a.length ∧ k ≤ b.length ∧ s < 2 ∧ o.length ≤ i ∧ iv = .int .i64 i ∧ kv = .int .i64 k ∧ sv = .int .i64 s ∧
      Own encT 2 62 wr W4.heap.size out o ∧ Hid (o ++ pathP g (a.drop i) (b.drop k) s i k = alignL a b g) ∧ Below W4.heap.size W4 wr) (fun _ iv kv _ _ => (a.length - intOf iv).toNat + (b.length - intOf kv).toNat)
  case atStart => exact ⟨0, 0, 0, [], Nat.zero_le _, Nat.zero_le _, by omega, Nat.zero_le _, rfl, rfl, rfl, Own.nil _ _, Lib.hid rfl, Below.refl _ _⟩
  case round =>
    obtain ⟨i, k, s, o, hil, hkl, hs2, hol, rfl, rfl, rfl, hown, HSC, hbr⟩ := hrel
    have hbz := hbr.size
    by_cases hgo : i < a.length ∨ k < b.length
    · have hG := (hbr.block _ (lt_of_block HG.out)).trans HG.out
      have c0 : wr.cell? ⟨G, 0, none⟩ = some (.slice A a.length c) := blk_cell hG 0
      have c1 : wr.cell? ⟨G, 1, none⟩ = some (.slice A' b.length c') := blk_cell hG 1
      have c2 : wr.cell? ⟨G, 2, none⟩ = some (.int .i64 g) := blk_cell hG 2
      have c3 : wr.cell? ⟨G, 3, none⟩ = some (.slice (some ⟨F, 0, none⟩) (a.length + 1) cap) := blk_cell hG 3
      have cF := cell_over (HROW.out i hil) hbr
      have cX := cell_over (HCELL.out i k s hil hkl hs2) hbr
      have HCM : Hid (Calls Try.prog 36 #[.pointer (some ⟨G, 0, none⟩), .int .i64 i, .int .i64 k] wr fun e w' => e = .returned (.int .i64 (mT g a b i k)) ∧ ∃ m, w' = wr.drewN m) :=
        Lib.hid (match_any g a b wr w.heap.size G F (b.length + 1) (a.length + 1) cap c c' A A' i k c0 c1 c3 (HA.below (HB4.out.trans (hbr.mono hz4))) (HB.below (HB4.out.trans (hbr.mono hz4))) rfl rfl hal hbl hwa hwb hg0 hg1 hil hkl
          (fun h1 h2 => ⟨R (i + 1), cell_over (HROW.out (i + 1) h1) hbr, by have := cell_over (HCELL.out (i + 1) (k + 1) 0 h1 h2 (by omega)) hbr; simpa using this⟩))
      have HCL : Hid (∀ m, Calls Try.prog 37 #[.pointer (some ⟨G, 0, none⟩), .int .i64 i, .int .i64 k, .int .i64 s] (wr.drewN m) fun e w' => e = .returned (.int .i64 (lT g a b i k s)) ∧ ∃ m', w' = (wr.drewN m).drewN m') :=
        Lib.hid fun m => left_any g a b (wr.drewN m) G F (b.length + 1) (a.length + 1) cap c A i k s c0 c2 c3 rfl rfl hal hbl hwa hwb hg0 hg1 hil hkl hs2
          (fun h1 => ⟨R (i + 1), cell_over (HROW.out (i + 1) h1) (below_drewN hbr m), cell_over (HCELL.out (i + 1) k 1 h1 hkl (by omega)) (below_drewN hbr m)⟩)
      have HCH := Lib.hid (tab_choose hg0 hg1 hwa hwb s hil hkl hgo)
      have hiI : (i : Int) < ((a.length : Int) + 1) := by omega
      have hkI : (k : Int) < ((b.length : Int) + 1) := by omega
      have hsI : (s : Int) < 2 := by omega
      have hgw : Hid (i < a.length ∨ k < b.length) := Lib.hid hgo
      clear hG c0 c1 c2
      obtain ⟨vv, hvv⟩ : ∃ vv, vv = oT g a b i k s := ⟨_, rfl⟩
      rw [← hvv] at cX HCH
      clear hvv
      obtain ⟨R', hR'⟩ : ∃ R', R' = R i := ⟨_, rfl⟩
      rw [← hR'] at cF cX
      clear hR'
      by_cases hia : i < a.length
      · have d1 : decide ((i : Int) < (a.length : Int)) = true := by simp; omega
        clear hgo
        go_wp2_with fail
        refine HCM.out.mono ?_
        rintro e w1 ⟨rfl, m, rfl⟩
        rcases HCH.out with ⟨e1, h1, h2, hp⟩ | ⟨e1, e2, h1, hp⟩ | ⟨e1, e2, h2, hp⟩
        · have q1 : (vv == mT g a b i k) = true := by rw [e1]; simp
          have HF1 : Hid ((o ++ [((i : Int), (k : Int))]) ++ pathP g (a.drop (i + 1)) (b.drop (k + 1)) 0 (i + 1) (k + 1) = alignL a b g) := Lib.hid (by rw [← HSC.out, hp, List.append_assoc]; rfl)
          clear e1 hp c3 cF cX HCH
          go_wp2_with (at_builtin; refine wpList_push _ rfl _ _ 26 rfl W4.heap.size 62 i0 _ 2 16 Try.underlying26 hi hz0 hz1 hz2 rfl (by decide) encT_length encT_one _ _ rfl (hown.drewN m |>.alloc _) _ _ ((i : Int), (k : Int)) rfl (cells_new _ _ _) ?c1 ?c2 ?c3 ?_)
          case c1 => omega
          case c2 => omega
          case c3 => simp; omega
          intro v' w5 hown1 hg1'
          have hb5 : Below W4.heap.size W4 w5 := ((below_drewN hbr m).alloc hbz _).grown hg1' (by simp; omega) (fun q hq => (hown.lt q hq).1)
          clear hown
          go_wp2
          go_roundw
          case rel => exact ⟨i + 1, k + 1, 0, _, by omega, by omega, by omega, by simp; omega, by go_num, by go_num, rfl, hown1, HF1, hb5⟩
          case measure => simp [intOf]; omega
        · have q1 : (vv == mT g a b i k) = false := by rw [beq_eq_false_iff_ne]; exact e1
          have q2 : (vv == lT g a b i k s) = true := by rw [e2]; simp
          have HF1 : Hid (o ++ pathP g (a.drop (i + 1)) (b.drop k) 1 (i + 1) k = alignL a b g) := Lib.hid (by rw [← HSC.out, hp])
          clear e1 e2 hp c3 cF cX HCH
          go_wp2_with fail
          refine (HCL.out m).mono ?_
          rintro e w2 ⟨rfl, m2, rfl⟩
          go_wp2_with fail
          go_roundw
          case rel => exact ⟨i + 1, k, 1, o, by omega, by omega, by omega, by omega, by go_num, rfl, rfl, hown.drewN (m + m2), HF1, below_drewN hbr (m + m2)⟩
          case measure => simp [intOf]; omega
        · have q1 : (vv == mT g a b i k) = false := by rw [beq_eq_false_iff_ne]; exact e1
          have q2 : (vv == lT g a b i k s) = false := by rw [beq_eq_false_iff_ne]; exact e2
          have HF1 : Hid (o ++ pathP g (a.drop i) (b.drop (k + 1)) 1 i (k + 1) = alignL a b g) := Lib.hid (by rw [← HSC.out, hp])
          clear e1 e2 hp c3 cF cX HCH
          go_wp2_with fail
          refine (HCL.out m).mono ?_
          rintro e w2 ⟨rfl, m2, rfl⟩
          go_wp2_with fail
          go_roundw
          case rel => exact ⟨i, k + 1, 1, o, by omega, by omega, by omega, by omega, rfl, by go_num, rfl, hown.drewN (m + m2), HF1, below_drewN hbr (m + m2)⟩
          case measure => simp [intOf]; omega
      · have d1 : decide ((i : Int) < (a.length : Int)) = false := by simp; omega
        have hkb : k < b.length := by omega
        have d2 : decide (k < b.length) = true := by simp; omega
        clear hgo
        go_wp2_with fail
        refine HCM.out.mono ?_
        rintro e w1 ⟨rfl, m, rfl⟩
        rcases HCH.out with ⟨e1, h1, h2, hp⟩ | ⟨e1, e2, h1, hp⟩ | ⟨e1, e2, h2, hp⟩
        · exact absurd h1 hia
        · exact absurd h1 hia
        · have q1 : (vv == mT g a b i k) = false := by rw [beq_eq_false_iff_ne]; exact e1
          have q2 : (vv == lT g a b i k s) = false := by rw [beq_eq_false_iff_ne]; exact e2
          have HF1 : Hid (o ++ pathP g (a.drop i) (b.drop (k + 1)) 1 i (k + 1) = alignL a b g) := Lib.hid (by rw [← HSC.out, hp])
          clear e1 e2 hp c3 cF cX HCH
          go_wp2_with fail
          refine (HCL.out m).mono ?_
          rintro e w2 ⟨rfl, m2, rfl⟩
          go_wp2_with fail
          go_roundw
          case rel => exact ⟨i, k + 1, 1, o, by omega, by omega, by omega, by omega, rfl, by go_num, rfl, hown.drewN (m + m2), HF1, below_drewN hbr (m + m2)⟩
          case measure => simp [intOf]; omega
    · have HE : Hid (o = alignL a b g) := Lib.hid (by rw [← HSC.out, pathP_nil g a b i k s (by omega), List.append_nil])
      go_wp2
      all_goals
        go_ret
        refine ⟨_, rfl, ?_, HB4.out.trans (hbr.mono hz4)⟩
        rw [← HE.out]; exact hown.lower hz4
end Go.Proofs.Ytbpegoekjlehcaa
