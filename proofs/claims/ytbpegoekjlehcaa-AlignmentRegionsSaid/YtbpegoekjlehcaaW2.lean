/- Walks: sums, words, reversal, weights, pairs. -/
import Derived.Test.YtbpegoekjlehcaaW1
namespace Go.Proofs.Ytbpegoekjlehcaa
open Go.RowKit

set_option maxHeartbeats 400000 in
theorem lboth_any (va vb : Value) (a b : List Tok) (w : World) (ha : Toks w w.heap.size va a) (hb : Toks w w.heap.size vb b) :
    Calls Try.prog 16 #[va, vb] w fun e w' => e = .returned (.int .i64 (bothL a b)) ∧ Below w.heap.size w w' := by
  by_cases hc : checkL a = 0
  · have HA := Lib.hid (lcheck_any va a w ha)
    have hbe : (checkL a != 0) = false := by simp [hc]
    have HB := Lib.hid hc
    clear hc
    go_enter Try.func16, Try.ntmps16
    go_wp2_with fail
    refine HA.out.mono ?_
    rintro e w1 ⟨rfl, hb1⟩
    go_wp2_with fail
    refine (lcheck_any vb b w1 (hb.over hb1)).mono ?_
    rintro e w2 ⟨rfl, hb2⟩
    go_wp2_with fail
    go_ret
    exact ⟨ret_int (by rw [bothL, if_pos HB.out]), hb1.trans (hb2.mono hb1.size)⟩
  · have HA := Lib.hid (lcheck_any va a w ha)
    have hbe : (checkL a != 0) = true := by simp [hc]
    have HB := Lib.hid hc
    clear hc
    go_enter Try.func16, Try.ntmps16
    go_wp2_with fail
    refine HA.out.mono ?_
    rintro e w1 ⟨rfl, hb1⟩
    go_wp2_with fail
    go_ret
    exact ⟨ret_int (by rw [bothL, if_neg HB.out]), hb1⟩

set_option maxHeartbeats 400000 in
theorem gap_any (g : Int) (w : World) :
    Calls Try.prog 33 #[.int .i64 g] w fun e w' => e = .returned (.int .i64 (gapL g)) ∧ w = w' := by
  by_cases h1 : g < 0
  · have HB := Lib.hid (show gapL g = 2 by rw [gapL, if_pos (.inl h1)])
    go_enter Try.func33, Try.ntmps33
    go_wp2
    go_ret
    exact ⟨ret_int HB.out.symm, rfl⟩
  · by_cases h2 : 1000 < g
    · have HB := Lib.hid (show gapL g = 2 by rw [gapL, if_pos (.inr h2)])
      go_enter Try.func33, Try.ntmps33
      go_wp2
      go_ret
      exact ⟨ret_int HB.out.symm, rfl⟩
    · have HB := Lib.hid (show gapL g = 0 by rw [gapL, if_neg (by omega)])
      go_enter Try.func33, Try.ntmps33
      go_wp2
      go_ret
      exact ⟨ret_int HB.out.symm, rfl⟩

set_option maxHeartbeats 400000 in
theorem sum_any (v : Value) (l : List Tok) (w : World) (h : Toks w w.heap.size v l) (hw : WOk l) (hlen : l.length ≤ 4096) :
    Calls Try.prog 24 #[v] w fun e w' => e = .returned (.int .i64 (sumL l)) ∧ w = w' := by
  obtain ⟨A, c, rfl, hn, hc, HT⟩ := h.tok
  clear h
  go_enter Try.func24, Try.ntmps24
  go_wp2
  go_loop [3, 4] (fun n i => ∃ k : Nat, k ≤ l.length ∧ i = .int .i64 k ∧ n = .int .i64 (sumL (l.take k))) (fun _ i => l.length - (intOf i).toNat)
  case atStart => exact ⟨0, Nat.zero_le _, rfl, rfl⟩
  case round =>
    obtain ⟨k, hk, rfl, rfl⟩ := hrel
    have hbd := sumL_take_bound l hw k
    by_cases hlt : k < l.length
    · have HS := Lib.hid (sumL_take l k hlt)
      have hwk := hw l[k] (by simp)
      obtain ⟨b, o, rfl, hbB, g1, g2⟩ := HT k hlt
      go_wp2
      go_round
      case rel => exact ⟨k + 1, by omega, by go_num, by rw [HS.out]⟩
      case measure => simp [intOf]; omega
    · go_wp2
      go_ret
      exact ⟨ret_int (by rw [List.take_of_length_le (by omega)]), rfl⟩

set_option maxHeartbeats 400000 in
theorem weight_any (t u : Tok) (w : World) :
    Calls Try.prog 41 #[.agg #[.int .i64 t.1, .int .i64 t.2], .agg #[.int .i64 u.1, .int .i64 u.2]] w fun e w' => e = .returned (.int .i64 (min t.2 u.2)) ∧ Below w.heap.size w w' := by
  by_cases h : t.2 ≤ u.2
  · have HM := Lib.hid (Int.min_eq_left h)
    go_enter Try.func41, Try.ntmps41
    go_wp2
    go_ret
    exact ⟨ret_int (by rw [HM.out]), ((Below.refl _ _).alloc (by omega) _).alloc (by simp) _⟩
  · have HM := Lib.hid (Int.min_eq_right (show u.2 ≤ t.2 by omega))
    go_enter Try.func41, Try.ntmps41
    go_wp2
    go_ret
    exact ⟨ret_int (by rw [HM.out]), ((Below.refl _ _).alloc (by omega) _).alloc (by simp) _⟩

theorem info46 : (Try.prog.info? 46).map (fun i => (i.zero, i.size, i.bytes)) = some (some (.agg #[.int .i64 0, .int .i64 0]), 2, 16) := by kernel_rfl
theorem info62 : (Try.prog.info? 62).map (fun i => (i.zero, i.size, i.bytes)) = some (some (.agg #[.int .i64 0, .int .i64 0]), 2, 16) := by kernel_rfl

theorem encT_one (t : Tok) : ∀ u ∈ encT t, u.oneCell' = true := by
  intro u hu
  simp only [encT, List.mem_cons, List.not_mem_nil, or_false] at hu
  rcases hu with rfl | rfl <;> rfl

theorem rev_take (l : List Tok) (k : Nat) (h : k < l.length) : l.reverse.take (k + 1) = l.reverse.take k ++ [l[l.length - 1 - k]] := by
  rw [List.take_succ_eq_append_getElem (by simpa using h), List.getElem_reverse]

set_option maxHeartbeats 400000 in
theorem reversed_any (v : Value) (l : List Tok) (w : World) (h : Toks w w.heap.size v l) (hlen : l.length ≤ 4096) :
    Calls Try.prog 22 #[v] w fun e w' => ∃ v', e = .returned v' ∧ OwnT w' w.heap.size v' l.reverse ∧ Below w.heap.size w w' := by
  obtain ⟨A, c, rfl, hn, hc, HT⟩ := h.tok
  clear h
  obtain ⟨i0, hi, hz0, hz1, hz2⟩ := info_parts info46
  go_enter Try.func22, Try.ntmps22
  go_wp2
  go_loopw [3, 4] (fun out i wr => ∃ k : Nat, k ≤ l.length ∧ i = .int .i64 (l.length - 1 - k) ∧ OwnT wr w.heap.size out (l.reverse.take k) ∧ Below w.heap.size w wr) (fun _ i _ => (intOf i + 1).toNat)
  case atStart => exact ⟨0, Nat.zero_le _, by go_num, Own.nil _ _, Below.refl _ _⟩
  case round =>
    obtain ⟨k, hk, rfl, hown, hb⟩ := hrel
    have hbz := hb.size
    by_cases hlt : k < l.length
    · obtain ⟨j, hj⟩ : ∃ j : Nat, j = l.length - 1 - k := ⟨_, rfl⟩
      have hjl : j < l.length := by omega
      have hji : (l.length : Int) - 1 - k = (j : Int) := by omega
      have HS := Lib.hid (show l.reverse.take (k + 1) = l.reverse.take k ++ [l[j]] by rw [rev_take l k hlt]; simp [hj])
      have HJ := Lib.hid hj
      rw [hji]
      clear hj hji
      obtain ⟨b, o, rfl, hbB, g1, g2⟩ := (HT.below hb) j hjl
      go_wp2_with (at_builtin; refine wpList_push _ rfl _ _ 22 rfl w.heap.size 46 i0 _ 2 16 Try.underlying22 hi hz0 hz1 hz2 rfl (by decide) encT_length encT_one _ _ rfl (hown.alloc _) _ _ l[j] rfl (cells_new _ _ _) ?c1 ?c2 ?c3 ?_)
      case c1 => rw [List.length_take, List.length_reverse]; omega
      case c2 => rw [List.length_take, List.length_reverse]; omega
      case c3 => simp; omega
      intro v' w1 hown1 hg1
      have hb1 : Below w.heap.size w w1 := (hb.alloc hbz _).grown hg1 (by simp; omega) (fun q hq => (hown.lt q hq).1)
      rw [← HS.out] at hown1
      clear hown
      go_wp2
      go_roundw
      case rel => exact ⟨k + 1, by omega, by have := HJ.out; go_num, hown1, hb1⟩
      case measure => simp [intOf]
    · have hkl : k = l.length := by omega
      have hneg : (l.length : Int) - 1 - k < 0 := by omega
      go_wp2
      go_ret
      refine ⟨_, rfl, ?_, hb⟩
      rw [List.take_of_length_le (by simp; omega)] at hown
      exact hown

set_option maxHeartbeats 400000 in
theorem word_any (s : ByteArray) (w : World) (hs : s.size ≤ 4096) :
    Calls Try.prog 25 #[.string s] w fun e w' => ∃ v', e = .returned v' ∧ OwnT w' w.heap.size v' (s.data.toList.map fun c => ((c.toNat : Int), (1 : Int))) ∧ Below w.heap.size w w' := by
  obtain ⟨i0, hi, hz0, hz1, hz2⟩ := info_parts info46
  go_enter Try.func25, Try.ntmps25
  go_wp2
  go_loopw [3, 4] (fun out i wr => ∃ k : Nat, k ≤ s.size ∧ i = .int .i64 k ∧ OwnT wr w.heap.size out ((s.data.toList.map fun c => ((c.toNat : Int), (1 : Int))).take k) ∧ Below w.heap.size w wr) (fun _ i _ => (s.size - intOf i).toNat)
  case atStart => exact ⟨0, Nat.zero_le _, rfl, Own.nil _ _, Below.refl _ _⟩
  case round =>
    obtain ⟨k, hk, rfl, hown, hb⟩ := hrel
    have hbz := hb.size
    by_cases hlt : k < s.size
    · have hwb : wrap64 (s[k].toNat : Int) = (s[k].toNat : Int) := by have := s[k].toNat_lt; unfold wrap64; omega
      have HS := Lib.hid (show (s.data.toList.map fun c => ((c.toNat : Int), (1 : Int))).take (k + 1) = (s.data.toList.map fun c => ((c.toNat : Int), (1 : Int))).take k ++ [((s[k].toNat : Int), (1 : Int))] by
        rw [List.take_succ_eq_append_getElem (by simpa using hlt)]; simp; rfl)
      go_wp2_with (at_builtin; refine wpList_push _ rfl _ _ 22 rfl w.heap.size 46 i0 _ 2 16 Try.underlying22 hi hz0 hz1 hz2 rfl (by decide) encT_length encT_one _ _ rfl (hown.alloc _) _ _ ((s[k].toNat : Int), (1 : Int)) rfl (cells_new _ _ _) ?c1 ?c2 ?c3 ?_)
      case c1 => rw [List.length_take]; omega
      case c2 => rw [List.length_take]; omega
      case c3 => simp; omega
      intro v' w1 hown1 hg1
      have hb1 : Below w.heap.size w w1 := (hb.alloc hbz _).grown hg1 (by simp; omega) (fun q hq => (hown.lt q hq).1)
      rw [← HS.out] at hown1
      clear hown hwb
      go_wp2
      go_roundw
      case rel => exact ⟨k + 1, by omega, by go_num, hown1, hb1⟩
      case measure => simp [intOf]; omega
    · have hkl : k = s.size := by omega
      go_wp2
      go_ret
      refine ⟨_, rfl, ?_, hb⟩
      rw [List.take_of_length_le (by simp; omega)] at hown
      exact hown

end Go.Proofs.Ytbpegoekjlehcaa
