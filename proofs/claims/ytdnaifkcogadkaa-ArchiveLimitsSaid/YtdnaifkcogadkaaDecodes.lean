/- Walk: the law ArchiveDecodes. -/
import Derived.Test.YtdnaifkcogadkaaR8
namespace Go.Proofs.Ytdnaifkcogadkaa
open Go.RowKit

theorem int_eq (z : Int) : (z != z) = false ∧ (z == z) = true := ⟨by simp, by simp⟩
theorem DecPost.sl {B : Nat} {l : List Nat} {v : Value} {n : Int} {w : World} (h : DecPost B l v n w) : Parts w w.heap.size v (decP l) := h.2.sl encP_length

set_option maxRecDepth 100000 in
set_option maxHeartbeats 4000000 in
theorem decodes_any (s : ByteArray) (w : World) (hs : s.size ≤ 9223372036854775807) : Calls Try.prog 6 #[.string s] w fun e w' => e = .returned (.bool true) ∧ Below w.heap.size w w' := by
  have m0 : (0 : Int) ≤ min (s.size : Int) 800 := by omega
  have m1 : min (s.size : Int) 800 ≤ (s.size : Int) := by omega
  obtain ⟨t, ht⟩ : ∃ t, t = s.extract 0 (min (s.size : Int) 800).toNat := ⟨_, rfl⟩
  have hts : t.size ≤ 800 := by rw [ht, ByteArray.size_extract]; omega
  have ht' := ht.symm
  clear ht
  go_enter Try.func6, Try.ntmps6
  go_wp2_with fail
  refine (known_any w).mono ?_
  rintro e w1 ⟨rfl, hk1⟩
  go_wp2_with fail
  refine (directory_any t w1 (by omega)).mono ?_
  rintro e w2 ⟨v1, n1, rfl, ⟨hn1, _, he1⟩, hk2⟩
  have HN1 := Lib.hid hn1
  clear hn1
  have hb2 := hk1.trans (hk2.mono hk1.size)
  go_wp2_with fail
  refine (directory_ref t w2 (by omega)).mono ?_
  rintro e w3 ⟨v2, n2, rfl, ⟨hn2, _, he2⟩, hk3⟩
  have hb3 := hb2.trans (hk3.mono hb2.size)
  have he1 := Sl.over he1 hk3
  have hz := HN1.out.trans hn2.symm
  clear hk1 hk2 hk3 hb2 HN1 hn2
  subst hz
  obtain ⟨X, hX⟩ : ∃ X, X = dirX (bytesN t) := ⟨_, rfl⟩
  rw [← hX] at he1 he2
  clear hX
  obtain ⟨A1, c1, rfl, hl1, hc1, _⟩ := id he1
  obtain ⟨A2, c2, rfl, hl2, hc2, _⟩ := id he2
  unfold maxLen at hc1 hc2
  obtain ⟨m, hm⟩ : ∃ m, m = X.length := ⟨_, rfl⟩
  have HM := Lib.hid hm
  rw [← hm] at he1 he2 hl1 hl2 ⊢
  have HE1 := Lib.hid he1
  have HE2 := Lib.hid he2
  obtain ⟨z1, z2⟩ := int_eq n1
  have hmm := eq_nat m
  clear he1 he2 hm
  go_wp2_with fail
  go_loopw [7] (fun iv wr => ∃ k n : Nat, k ≤ m ∧ iv = .int .i64 k ∧ wr = w3.drewN n) (fun iv _ => m - (intOf iv).toNat)
  case atStart => exact ⟨0, 0, Nat.zero_le _, rfl, rfl⟩
  case round =>
    obtain ⟨k, n, hk, rfl, hw⟩ := hrel
    subst hw
    by_cases hlt : k < m
    · obtain ⟨x, hx⟩ : ∃ x, X[k]? = some x := ⟨X[k]'(by rw [← HM.out]; exact hlt), by simp⟩
      obtain ⟨b1, o1, hA1, _, g0, g1, g2, g3⟩ := Ents.at HE1.out k x hx
      obtain ⟨b2, o2, hA2, _, f0, f1, f2, f3⟩ := Ents.at HE2.out k x hx
      subst hA1 hA2
      clear hx
      obtain ⟨⟨nm, sz, sm⟩, off⟩ := x
      simp only at g0 g1 g2 g3 f0 f1 f2 f3
      have k4 : (k : Int) < (m : Int) := by omega
      go_wp2_with fail
      go_quiet (fail)
      go_wp2_with fail
      exact ⟨⟨k + 1, _, by omega, by go_num, rfl⟩, by simp [intOf]; omega⟩
    · go_wp2_with fail
      refine (decode_any t _ (by omega)).mono ?_
      rintro e w4 ⟨v3, n3, rfl, hp3, hk4⟩
      have HP3 := Lib.hid hp3
      clear hp3
      have hb4 := (below_drewN hb3 n).trans (hk4.mono hb3.size)
      go_wp2_with fail
      refine (decode_ref t _ (by omega)).mono ?_
      rintro e w5 ⟨v4, n4, rfl, hp4, hk5⟩
      have hb5 := hb4.trans (hk5.mono hb4.size)
      have P3 := Sl.over HP3.out.sl hk5
      have P4 := hp4.sl
      have hz := HP3.out.1.trans hp4.1.symm
      clear HP3 hp4 hk4 hk5 hb4
      subst hz
      obtain ⟨y1, y2⟩ := int_eq n3
      go_wp2_with fail
      refine (same_any v3 v4 _ w5 P3 P4).mono ?_
      rintro e w6 ⟨rfl, n6, rfl⟩
      clear P3 P4
      go_wp2_with fail
      go_ret
      exact ⟨rfl, below_drewN hb5 _⟩
end Go.Proofs.Ytdnaifkcogadkaa
