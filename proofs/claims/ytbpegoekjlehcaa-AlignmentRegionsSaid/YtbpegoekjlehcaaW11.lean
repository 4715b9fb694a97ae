/- Walks: Grow, Concat, Similarity. -/
import Derived.Test.YtbpegoekjlehcaaW9
import Derived.Test.YtbpegoekjlehcaaLib2
namespace Go.Proofs.Ytbpegoekjlehcaa
open Go.RowKit

set_option maxHeartbeats 400000 in
theorem grow_any (n : Nat) (w : World) (hn : n ≤ 1048576) :
    Calls Try.prog 44 #[.slice none 0 0, .int .i64 n] w fun e w' => ∃ v, e = .returned v ∧ OwnT w' w.heap.size v [] ∧ Below w.heap.size w w' := by
  obtain ⟨i0, hi, hz0, hz1, hz2⟩ := info_parts info46
  by_cases h0 : n = 0
  · subst h0
    go_enter Try.func44, Try.ntmps44
    go_wp2
    go_ret
    exact ⟨.slice none 0 0, rfl, Own.nil _ _, Below.refl _ _⟩
  · have hn0 : 0 < n := by omega
    have hge := grownCap_ge w n 0 46
    have hle := grownCap_le_maxLen w n 0 46 (by simp only [maxLen]; omega)
    have hrun := fun ty => Lib.run_append_nil_zeros (P := Try.prog) w 22 3 ty 46 i0 _ .i64 .i64 Try.underlying22 Try.underlying3 hi hz0 n hn0 (by omega) (by omega) (by rw [hz2]; omega)
    have HO := Lib.hid (own_grown (enc := encT) (E := 46) w w.heap.size n (grownCap w n 0 46) (.agg #[.int .i64 0, .int .i64 0]) rfl (Nat.le_refl _) hge hle)
    have HRUN := Lib.hid hrun
    have hcI : (0 : Int) ≤ (grownCap w n 0 46 : Int) := by omega
    clear hrun h0
    go_enter Try.func44, Try.ntmps44
    go_wp2_with (at_builtin; refine Lib.wpList_append_run _ rfl _ _ _ _ rfl _ _ rfl rfl _ _ (HRUN.out _) ?_)
    go_ret
    exact ⟨_, rfl, HO.out, (Below.refl _ w).drew.alloc (Nat.le_refl _) _⟩

/-- The sum of the lengths of the first parts. -/
def lensOf (ps : List (Value × List Tok)) : Nat := (ps.map (·.2.length)).sum
def flatOf (ps : List (Value × List Tok)) : List Tok := ps.flatMap (·.2)
theorem lensOf_take (ps : List (Value × List Tok)) (k : Nat) (h : k < ps.length) : lensOf (ps.take (k + 1)) = lensOf (ps.take k) + ps[k].2.length := by
  unfold lensOf
  rw [List.take_succ_eq_append_getElem h, List.map_append, List.sum_append]; simp
theorem flatOf_take (ps : List (Value × List Tok)) (k : Nat) (h : k < ps.length) : flatOf (ps.take (k + 1)) = flatOf (ps.take k) ++ ps[k].2 := by
  unfold flatOf
  rw [List.take_succ_eq_append_getElem h, List.flatMap_append]; simp
theorem lensOf_le (ps : List (Value × List Tok)) (k : Nat) : lensOf (ps.take k) ≤ lensOf ps := by
  unfold lensOf
  conv => rhs; rw [← List.take_append_drop k ps, List.map_append, List.sum_append]
  omega
theorem flatOf_length (ps : List (Value × List Tok)) : (flatOf ps).length = lensOf ps := by
  induction ps with
  | nil => rfl
  | cons p r ih => simp only [flatOf, lensOf, List.flatMap_cons, List.length_append, List.map_cons, List.sum_cons] at *; omega

set_option maxHeartbeats 1000000 in
theorem concat_any (G n : Nat) (ps : List (Value × List Tok)) (hn : n = ps.length) (w : World) (hG : G < w.heap.size) (hsum : lensOf ps ≤ 1048576) (hpl : n ≤ 1048576)
    (hcells : ∀ i (h : i < ps.length), w.cell? ⟨G, i, none⟩ = some ps[i].1) (hsl : ∀ p ∈ ps, Toks w w.heap.size p.1 p.2) :
    Calls Try.prog 38 #[.slice (some ⟨G, 0, none⟩) n n] w fun e w' => ∃ v, e = .returned v ∧ OwnT w' w.heap.size v (flatOf ps) ∧ Below w.heap.size w w' := by
  obtain ⟨i0, hi, hz0, hz1, hz2⟩ := info_parts info46
  have HC := Lib.hid hcells
  have HS := Lib.hid hsl
  have HN := Lib.hid hn
  clear hcells hsl hn
  go_enter Try.func38, Try.ntmps38
  go_wp2
  go_loop [3, 11] (fun sv iv => ∃ k : Nat, k ≤ n ∧ iv = .int .i64 k ∧ sv = .int .i64 (lensOf (ps.take k))) (fun _ iv => n - (intOf iv).toNat)
  case atStart => exact ⟨0, Nat.zero_le _, rfl, rfl⟩
  case round =>
    obtain ⟨k, hk, rfl, rfl⟩ := hrel
    have hle := lensOf_le ps k
    by_cases hlt : k < n
    · have hlp : k < ps.length := by rw [← HN.out]; exact hlt
      have HT := Lib.hid (lensOf_take ps k hlp)
      have hle2 := lensOf_le ps (k + 1)
      rw [HT.out] at hle2
      have c1 := HC.out k hlp
      obtain ⟨A, c, hv, hc1, hc2, _⟩ := HS.out ps[k] (by simp)
      rw [hv] at c1
      clear hv
      go_wp2
      go_round
      case rel => exact ⟨k + 1, by omega, by go_num, by rw [HT.out]; go_num⟩
      case measure => simp [intOf]; omega
    · have hkn : n ≤ k := by omega
      have HE : Hid (lensOf (ps.take k) = lensOf ps) := Lib.hid (by rw [List.take_of_length_le (by have := HN.out; omega)])
      go_wp2_with fail
      rw [HE.out]
      refine (grow_any (lensOf ps) w hsum).mono ?_
      rintro e w1 ⟨v1, rfl, hown1, hb1⟩
      go_wp2_with fail
      obtain ⟨wo, hwo⟩ : ∃ wo : World, wo = w1 := ⟨_, rfl⟩
      rw [← hwo] at hown1 hb1 ⊢
      clear hwo
      go_loopw [6, 27] (fun out iv wr => ∃ k : Nat, k ≤ n ∧ iv = .int .i64 k ∧ OwnT wr w.heap.size out (flatOf (ps.take k)) ∧ Below w.heap.size w wr) (fun _ iv _ => n - (intOf iv).toNat)
      case atStart => exact ⟨0, Nat.zero_le _, rfl, hown1, hb1⟩
      case round =>
        clear hown1 hb1 hle
        obtain ⟨k, hk, rfl, hown, hbr⟩ := hrel
        have hle := lensOf_le ps k
        have hbz := hbr.size
        by_cases hlt : k < n
        · have hlp : k < ps.length := by rw [← HN.out]; exact hlt
          have HT := Lib.hid (flatOf_take ps k hlp)
          have hle2 := lensOf_le ps (k + 1)
          have HT2 := Lib.hid (lensOf_take ps k hlp)
          rw [HT2.out] at hle2
          have hfl := flatOf_length (ps.take k)
          have HFL := Lib.hid hfl
          clear hfl
          have c1 := hbr.cell (p := ⟨G, k, none⟩) hG
          rw [HC.out k hlp] at c1
          have hsk := (HS.out ps[k] (by simp)).below hbr
          go_wp2_with (at_builtin; refine wpList_append_sl _ rfl _ _ 22 rfl w.heap.size 46 i0 _ 16 Try.underlying22 hi hz0 hz1 hz2 rfl (by decide) encT_length encT_one _ _ rfl hown _ _ _ rfl hsk ?c1 ?c2 ?c3 ?_)
          case c1 => rw [HFL.out]; omega
          case c2 => rw [HFL.out]; omega
          case c3 => omega
          intro v' w5 hown5 hg5
          have hb5 : Below w.heap.size w w5 := hbr.grown hg5 hbz (fun q hq => (hown.lt q hq).1)
          rw [← HT.out] at hown5
          clear hown
          go_wp2
          go_roundw
          case rel => exact ⟨k + 1, by omega, by go_num, hown5, hb5⟩
          case measure => simp [intOf]; omega
        · have HE2 : Hid (ps.take k = ps) := Lib.hid (List.take_of_length_le (by have := HN.out; omega))
          go_wp2
          go_ret
          refine ⟨_, rfl, ?_, hbr⟩
          rw [HE2.out] at hown
          exact hown

end Go.Proofs.Ytbpegoekjlehcaa
