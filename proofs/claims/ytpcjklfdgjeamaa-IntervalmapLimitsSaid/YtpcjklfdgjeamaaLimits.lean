/- Walk: IntervalmapLimits. -/
import Derived.Test.YtpcjklfdgjeamaaW10
namespace Go.Proofs.Ytpcjklfdgjeamaa
open Go.RowKit

set_option maxHeartbeats 1000000 in
theorem limits_any (n v : Int) (w : World) : Calls Try.prog 3 #[.int .i64 n, .int .i64 v] w fun e w' => e = .returned (.bool true) ∧ Below w.heap.size w w' := by
  by_cases h1 : n < 0 ∨ 1048576 < n
  · have HN : Hid (Calls Try.prog 12 #[.int .i64 n, .int .i64 v] w fun e w' => e = .returned (.tuple #[.pointer none, .int .i64 2]) ∧ w = w') := Lib.hid ((new_any n v w).mono fun e w' h => by
      rcases h with ⟨_, _, h⟩ | ⟨_, h⟩
      · exfalso; omega
      · exact h)
    by_cases h2 : n < 0
    · clear h1
      go_enter Try.func3, Try.ntmps3
      go_wp2_with fail
      refine HN.out.mono ?_
      rintro e w1 ⟨rfl, rfl⟩
      go_wp2_with fail
      refine (known_any w).mono ?_
      rintro e w2 ⟨rfl, b2⟩
      go_wp2
      go_ret
      exact ⟨rfl, b2⟩
    · have h3 : 1048576 < n := by omega
      clear h1
      go_enter Try.func3, Try.ntmps3
      go_wp2_with fail
      refine HN.out.mono ?_
      rintro e w1 ⟨rfl, rfl⟩
      go_wp2_with fail
      refine (known_any w).mono ?_
      rintro e w2 ⟨rfl, b2⟩
      go_wp2
      go_ret
      exact ⟨rfl, b2⟩
  · have h2 : ¬ n < 0 := by omega
    have h3 : ¬ 1048576 < n := by omega
    have HN := Lib.hid (new_ok n v w (by omega) (by omega))
    have HL : Hid ((newL n v).length = n.toNat) := Lib.hid (by simp [newL])
    have HR : Hid (runsOf (newL n v) = if n = 0 then [] else [(0, n, v)]) := Lib.hid (by
      obtain ⟨k, rfl⟩ := Int.eq_ofNat_of_zero_le (show 0 ≤ n by omega)
      cases k with
      | zero => rfl
      | succ j =>
        rw [if_neg (by omega)]
        exact runs_rep j v)
    have HLN : Hid (∀ m W, MapIs W m (newL n v) → Calls Try.prog 14 #[.pointer (some ⟨m, 0, none⟩)] W fun e w' => e = .returned (.int .i64 n) ∧ Below W.heap.size W w') := Lib.hid (fun m W hW => by
      have := len_b m _ W hW
      rwa [HL.out, Int.toNat_of_nonneg (by omega)] at this)
    clear h1
    by_cases h0 : n = 0
    · subst h0
      rw [if_pos rfl] at HR
      go_enter Try.func3, Try.ntmps3
      go_wp2_with fail
      refine HN.out.mono ?_
      rintro e w1 ⟨m, rfl, hm, m1, b1⟩
      go_wp2_with fail
      refine (known_any w1).mono ?_
      rintro e w2 ⟨rfl, b2⟩
      have m2 := m1.below b2
      have b2' := b1.trans (b2.mono b1.size)
      clear m1 b1 b2
      go_wp2_with fail
      refine (HLN.out m w2 m2).mono ?_
      rintro e w3 ⟨rfl, b3⟩
      have m3 := m2.below b3
      have b3' := b2'.trans (b3.mono b2'.size)
      clear m2 b2' b3
      go_wp2_with fail
      refine (runsM_any m _ w3 m3 (by rw [HR.out]; simp)).mono ?_
      rintro e w4 ⟨v4, rfl, o4, b4⟩
      rw [HR.out] at o4
      obtain ⟨A, c, rfl, _, _⟩ := o4.shape
      have b4' := b3'.trans (b4.mono b3'.size)
      clear m3 b3' b4 o4
      go_wp2
      go_ret
      exact ⟨rfl, b4'⟩
    · have hne : (n == 0) = false := by simpa using h0
      rw [if_neg h0] at HR
      clear h0
      go_enter Try.func3, Try.ntmps3
      go_wp2_with fail
      refine HN.out.mono ?_
      rintro e w1 ⟨m, rfl, hm, m1, b1⟩
      go_wp2_with fail
      refine (known_any w1).mono ?_
      rintro e w2 ⟨rfl, b2⟩
      have m2 := m1.below b2
      have b2' := b1.trans (b2.mono b1.size)
      clear m1 b1 b2
      go_wp2_with fail
      refine (HLN.out m w2 m2).mono ?_
      rintro e w3 ⟨rfl, b3⟩
      have m3 := m2.below b3
      have b3' := b2'.trans (b3.mono b2'.size)
      clear m2 b2' b3
      go_wp2_with fail
      refine (runsM_any m _ w3 m3 (by rw [HR.out]; simp)).mono ?_
      rintro e w4 ⟨v4, rfl, o4, b4⟩
      rw [HR.out] at o4
      obtain ⟨A, c, rfl, hc1, hc2, hR⟩ := (o4.sl encR_length).run
      obtain ⟨b, o, rfl, _, g1, g2, g3⟩ := hR 0 (by simp)
      simp only [List.getElem_cons_zero, Nat.zero_mul, Nat.add_zero] at g1 g2 g3
      have b4' := b3'.trans (b4.mono b3'.size)
      clear m3 b3' b4 o4 hR
      go_wp2
      go_ret
      exact ⟨rfl, b4'⟩
end Go.Proofs.Ytpcjklfdgjeamaa
