/- The similarity: its bounds, and when it is the greatest; no program in sight. -/
import Derived.Test.YtbpegoekjlehcaaOpt3
namespace Go.Proofs.Ytbpegoekjlehcaa

theorem optC_bound2 (g : Int) (hg : 0 ≤ g) (a b : List Tok) (s : Nat) : WOk a → WOk b → (optC g a b s).1 ≤ sumL b := by
  fun_induction optC g a b s with
  | case1 s => intro _ _; simp [sumL]
  | case2 y ys s ih =>
    intro ha hb
    have := ih ha (fun t ht => hb t (by simp [ht]))
    have h1 := hb y (by simp)
    simp only [opn, sumL] at *
    split <;> omega
  | case3 x xs s ih =>
    intro ha hb
    have := ih (fun t ht => ha t (by simp [ht])) hb
    simp only [opn, sumL] at *
    split <;> omega
  | case4 x xs y ys s ih1 ih2 ih3 =>
    intro ha hb
    have ha' : WOk xs := fun t ht => ha t (by simp [ht])
    have hb' : WOk ys := fun t ht => hb t (by simp [ht])
    have h1 := ih1 ha' hb
    have h2 := ih2 ha hb'
    have h3 := ih3 ha' hb'
    have h5 := hb y (by simp)
    rw [best3_fst]
    have hmin : min x.2 y.2 ≤ y.2 := Int.min_le_right _ _
    simp only [opn, sumL] at *
    split <;> split <;> (try split) <;> omega

theorem optC_full (a b : List Tok) (s : Nat) : WOk a → WOk b → (optC 0 a b s).1 = sumL a → (optC 0 a b s).1 = sumL b → a = b := by
  fun_induction optC 0 a b s with
  | case1 s => intros; rfl
  | case2 y ys s ih =>
    intro ha hb e1 e2
    have h1 := hb y (by simp)
    have h2 := sumL_bound ys (fun t ht => hb t (by simp [ht]))
    rw [e1] at e2
    simp only [sumL] at e2
    omega
  | case3 x xs s ih =>
    intro ha hb e1 e2
    have h1 := ha x (by simp)
    have h2 := sumL_bound xs (fun t ht => ha t (by simp [ht]))
    rw [e1] at e2
    simp only [sumL] at e2
    omega
  | case4 x xs y ys s ih1 ih2 ih3 =>
    intro ha hb e1 e2
    have ha' : WOk xs := fun t ht => ha t (by simp [ht])
    have hb' : WOk ys := fun t ht => hb t (by simp [ht])
    have n1 := (optC_bound 0 (by omega) xs (y :: ys) 1 ha' hb).2
    have m1 := optC_bound2 0 (by omega) (x :: xs) ys 1 ha hb'
    have q1 := (optC_bound 0 (by omega) xs ys 0 ha' hb').2
    have q2 := optC_bound2 0 (by omega) xs ys 0 ha' hb'
    have w1 := ha x (by simp)
    have w2 := hb y (by simp)
    have hm1 : min x.2 y.2 ≤ x.2 := Int.min_le_left _ _
    have hm2 : min x.2 y.2 ≤ y.2 := Int.min_le_right _ _
    have ho : opn 0 s = 0 := by unfold opn; split <;> rfl
    rw [best3_fst, ho] at e1 e2
    simp only [sumL] at e1 e2 m1 n1
    by_cases hc : (x.1 == y.1) = true ∧ (if (optC 0 xs (y :: ys) 1).1 - 0 < (optC 0 (x :: xs) ys 1).1 - 0 then (optC 0 (x :: xs) ys 1).1 - 0 else (optC 0 xs (y :: ys) 1).1 - 0) ≤ (optC 0 xs ys 0).1 + min x.2 y.2
    · rw [if_pos hc] at e1 e2
      have hk : x.1 = y.1 := by simpa using hc.1
      have hv : x.2 = y.2 := by omega
      have hr := ih3 ha' hb' (by omega) (by omega)
      rw [hr, Prod.ext hk hv]
    · rw [if_neg hc] at e1 e2
      exfalso
      split at e1 <;> omega

section
variable {a b : List Tok}
theorem oT_full (ha : WOk a) (hb : WOk b) : (oT 0 a b 0 0 0 = sumL a ∧ oT 0 a b 0 0 0 = sumL b) ↔ a = b := by
  constructor
  · rintro ⟨h1, h2⟩
    exact optC_full a b 0 ha hb h1 h2
  · rintro rfl
    have h1 := oT_self (g := 0) (Int.le_refl _) ha _ 0 (Nat.le_refl _) (Nat.zero_le _)
    have h2 := oT_upper (g := 0) (Int.le_refl _) ha ha 0 0 0
    simp only [List.drop_zero] at h1 h2
    omega
theorem oT_sums (ha : WOk a) (hb : WOk b) : 0 ≤ oT 0 a b 0 0 0 ∧ oT 0 a b 0 0 0 ≤ sumL a ∧ oT 0 a b 0 0 0 ≤ sumL b := by
  refine ⟨?_, (optC_bound 0 (by omega) a b 0 ha hb).2, optC_bound2 0 (by omega) a b 0 ha hb⟩
  have := (optC_bound 0 (by omega) a b 0 ha hb).1
  simpa [opn, oT] using this
/-- The value of the definition, if not both are empty. -/
theorem simil_val (ha : WOk a) (hb : WOk b) (h : 0 < sumL a + sumL b) :
    0 ≤ 2000 * oT 0 a b 0 0 0 / (sumL a + sumL b) ∧ 2000 * oT 0 a b 0 0 0 / (sumL a + sumL b) ≤ 1000 ∧ (2000 * oT 0 a b 0 0 0 / (sumL a + sumL b) = 1000 ↔ a = b) := by
  obtain ⟨h0, h1, h2⟩ := oT_sums ha hb
  have hf := oT_full ha hb
  generalize oT 0 a b 0 0 0 = v at *
  generalize hS : sumL a + sumL b = S at *
  have hd := Int.ediv_mul_le (2000 * v) (show S ≠ 0 by omega)
  have hm := Int.lt_ediv_add_one_mul_self (2000 * v) h
  have n0 : 0 ≤ 2000 * v / S := Int.ediv_nonneg (by omega) (by omega)
  have n1 : 2000 * v / S ≤ 1000 := by
    have : 2000 * v / S < 1001 := Int.ediv_lt_of_lt_mul h (by omega)
    omega
  refine ⟨n0, n1, ?_⟩
  rw [← hf]
  constructor
  · intro he
    rw [he] at hd
    omega
  · rintro ⟨e1, e2⟩
    have : 2000 * v = 1000 * S := by omega
    rw [this]
    exact Int.mul_ediv_cancel _ (by omega)
theorem sum_zero (ha : WOk a) : sumL a = 0 ↔ a = [] := by
  constructor
  · intro h
    have := (sumL_bound a ha).1
    exact List.eq_nil_of_length_eq_zero (by omega)
  · rintro rfl; rfl
end
end Go.Proofs.Ytbpegoekjlehcaa
