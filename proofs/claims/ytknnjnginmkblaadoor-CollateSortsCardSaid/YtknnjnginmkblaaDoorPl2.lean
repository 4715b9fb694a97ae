/- Plainly: the two ways to read a code point; orders of lists; what a greater strength keeps. -/
import Derived.Test.YtknnjnginmkblaaDoorPl
namespace Go.Proofs.YtknnjnginmkblaaDoor

theorem lenB_1 {a : Nat} : lenB a = 1 ↔ a < 128 := by
  unfold lenB
  by_cases h1 : a < 128
  · rw [if_pos h1]; omega
  · rw [if_neg h1]
    by_cases h2 : a < 194 ∨ 244 < a
    · rw [if_pos h2]; omega
    · rw [if_neg h2]
      by_cases h3 : a < 224
      · rw [if_pos h3]; omega
      · rw [if_neg h3]
        by_cases h4 : a < 240
        · rw [if_pos h4]; omega
        · rw [if_neg h4]; omega
theorem lenB_2 {a : Nat} : lenB a = 2 ↔ 194 ≤ a ∧ a ≤ 223 := by
  unfold lenB
  by_cases h1 : a < 128
  · rw [if_pos h1]; omega
  · rw [if_neg h1]
    by_cases h2 : a < 194 ∨ 244 < a
    · rw [if_pos h2]; omega
    · rw [if_neg h2]
      by_cases h3 : a < 224
      · rw [if_pos h3]; omega
      · rw [if_neg h3]
        by_cases h4 : a < 240
        · rw [if_pos h4]; omega
        · rw [if_neg h4]; omega
theorem lenB_3 {a : Nat} : lenB a = 3 ↔ 224 ≤ a ∧ a ≤ 239 := by
  unfold lenB
  by_cases h1 : a < 128
  · rw [if_pos h1]; omega
  · rw [if_neg h1]
    by_cases h2 : a < 194 ∨ 244 < a
    · rw [if_pos h2]; omega
    · rw [if_neg h2]
      by_cases h3 : a < 224
      · rw [if_pos h3]; omega
      · rw [if_neg h3]
        by_cases h4 : a < 240
        · rw [if_pos h4]; omega
        · rw [if_neg h4]; omega
theorem lenB_4 {a : Nat} : lenB a = 4 ↔ 240 ≤ a ∧ a ≤ 244 := by
  unfold lenB
  by_cases h1 : a < 128
  · rw [if_pos h1]; omega
  · rw [if_neg h1]
    by_cases h2 : a < 194 ∨ 244 < a
    · rw [if_pos h2]; omega
    · rw [if_neg h2]
      by_cases h3 : a < 224
      · rw [if_pos h3]; omega
      · rw [if_neg h3]
        by_cases h4 : a < 240
        · rw [if_pos h4]; omega
        · rw [if_neg h4]; omega
theorem secB_iff (a b : Nat) : secB a b = true ↔ lowB a ≤ b ∧ b ≤ highB a := by unfold secB; simp
theorem contB_iff (b : Nat) : contB b = true ↔ 128 ≤ b ∧ b ≤ 191 := by unfold contB; simp
theorem secB_cont {a b : Nat} (h : secB a b = true) : contB b = true := by
  rw [secB_iff] at h
  rw [contB_iff]
  unfold lowB highB at h
  obtain ⟨h1, h2⟩ := h
  refine ⟨?_, ?_⟩
  · split at h1
    · omega
    · split at h1 <;> omega
  · split at h2
    · omega
    · split at h2 <;> omega
theorem lowB_eq (a : Nat) : lowB a = if a = 224 then 160 else if a = 240 then 144 else 128 := rfl
theorem highB_eq (a : Nat) : highB a = if a = 237 then 159 else if a = 244 then 143 else 191 := rfl
theorem ref2 {a b : Nat} (ha : lenB a = 2) : secB a b = contB b := by
  rw [lenB_2] at ha
  rw [Bool.eq_iff_iff, secB_iff, contB_iff, lowB_eq, highB_eq, if_neg (by omega), if_neg (by omega), if_neg (by omega), if_neg (by omega)]
/-- A code point of three bytes: not too short, no surrogate. -/
theorem ref3 {a b c : Nat} (ha : lenB a = 3) (hb : contB b = true) (hc : contB c = true) :
    secB a b = true ↔ 2048 ≤ ((a - 224) * 64 + (b - 128)) * 64 + (c - 128) ∧ ¬ (55296 ≤ ((a - 224) * 64 + (b - 128)) * 64 + (c - 128) ∧ ((a - 224) * 64 + (b - 128)) * 64 + (c - 128) ≤ 57343) := by
  rw [lenB_3] at ha
  rw [contB_iff] at hb hc
  rw [secB_iff, lowB_eq, highB_eq]
  by_cases h1 : a = 224
  · rw [if_pos h1, if_neg (by omega), if_neg (by omega)]; omega
  · rw [if_neg h1, if_neg (by omega)]
    by_cases h2 : a = 237
    · rw [if_pos h2]; omega
    · rw [if_neg h2, if_neg (by omega)]; omega
/-- A code point of four bytes: not too short, not too great. -/
theorem ref4 {a b c d : Nat} (ha : lenB a = 4) (hb : contB b = true) (hc : contB c = true) (hd : contB d = true) :
    secB a b = true ↔ 65536 ≤ (((a - 240) * 64 + (b - 128)) * 64 + (c - 128)) * 64 + (d - 128) ∧ (((a - 240) * 64 + (b - 128)) * 64 + (c - 128)) * 64 + (d - 128) ≤ 1114111 := by
  rw [lenB_4] at ha
  rw [contB_iff] at hb hc hd
  rw [secB_iff, lowB_eq, highB_eq]
  rw [if_neg (show ¬ a = 224 by omega), if_neg (show ¬ a = 237 by omega)]
  by_cases h1 : a = 240
  · rw [if_pos h1, if_neg (by omega)]; omega
  · rw [if_neg h1]
    by_cases h2 : a = 244
    · rw [if_pos h2]; omega
    · rw [if_neg h2]; omega
theorem dec1_lt {l : List Nat} {p n : Nat} (hl : ∀ b ∈ l, b < 256) (h : dec1 l = some (p, n)) : p ≤ 1114111 := by
  match l with
  | [] => exact absurd h (by simp [dec1])
  | a :: r =>
    simp only [dec1] at h
    by_cases h1 : lenB a = 1
    · rw [if_pos h1] at h
      rw [lenB_1] at h1
      injection h with h
      injection h with h _
      omega
    rw [if_neg h1] at h
    by_cases h2 : lenB a = 2
    · rw [if_pos h2] at h
      match r with
      | [] => exact absurd h (by simp [dec2])
      | b :: r =>
        simp only [dec2] at h
        by_cases hs : secB a b = true
        · rw [if_pos hs] at h
          rw [lenB_2] at h2
          have := (contB_iff b).1 (secB_cont hs)
          injection h with h
          injection h with h _
          omega
        · rw [if_neg hs] at h; exact absurd h (by simp)
    rw [if_neg h2] at h
    by_cases h3 : lenB a = 3
    · rw [if_pos h3] at h
      match r with
      | [] => exact absurd h (by simp [dec3])
      | [b] => exact absurd h (by simp [dec3])
      | b :: c :: r =>
        simp only [dec3] at h
        by_cases hs : secB a b = true ∧ contB c = true
        · rw [if_pos hs] at h
          rw [lenB_3] at h3
          have h5 := (contB_iff b).1 (secB_cont hs.1)
          have h6 := (contB_iff c).1 hs.2
          injection h with h
          injection h with h _
          omega
        · rw [if_neg hs] at h; exact absurd h (by simp)
    rw [if_neg h3] at h
    by_cases h4 : lenB a = 4
    · rw [if_pos h4] at h
      match r with
      | [] => exact absurd h (by simp [dec4])
      | [b] => exact absurd h (by simp [dec4])
      | [b, c] => exact absurd h (by simp [dec4])
      | b :: c :: d :: r =>
        simp only [dec4] at h
        by_cases hs : secB a b = true ∧ contB c = true ∧ contB d = true
        · rw [if_pos hs] at h
          have := (ref4 h4 (secB_cont hs.1) hs.2.1 hs.2.2).1 hs.1
          injection h with h
          injection h with h _
          omega
        · rw [if_neg hs] at h; exact absurd h (by simp)
    rw [if_neg h4] at h
    exact absurd h (by simp)

/-- Orders: smaller and smaller still. -/
theorem ordL_trans : ∀ (x y z : List Nat), ordL x y < 0 → ordL y z < 0 → ordL x z < 0
  | [], [], z, h, _ => by simp [ordL] at h
  | [], _ :: _, [], _, h => by simp [ordL] at h
  | [], _ :: _, _ :: _, _, _ => by simp [ordL]
  | _ :: _, [], _, h, _ => by simp [ordL] at h
  | _ :: _, _ :: _, [], _, h => by simp [ordL] at h
  | a :: x, b :: y, c :: z, h1, h2 => by
    have ih := ordL_trans x y z
    simp only [ordL] at h1 h2 ⊢
    by_cases g1 : a < b
    · by_cases g2 : b < c
      · rw [if_pos (by omega)]; decide
      · rw [if_neg g2] at h2
        by_cases g3 : c < b
        · rw [if_pos g3] at h2; exact absurd h2 (by decide)
        · rw [if_pos (by omega)]; decide
    · rw [if_neg g1] at h1
      by_cases g4 : b < a
      · rw [if_pos g4] at h1; exact absurd h1 (by decide)
      · rw [if_neg g4] at h1
        by_cases g2 : b < c
        · rw [if_pos (by omega)]; decide
        · rw [if_neg g2] at h2
          by_cases g3 : c < b
          · rw [if_pos g3] at h2; exact absurd h2 (by decide)
          · rw [if_neg g3] at h2
            rw [if_neg (by omega), if_neg (by omega)]
            exact ih h1 h2
theorem ordL_range (x y : List Nat) : ordL x y = -1 ∨ ordL x y = 0 ∨ ordL x y = 1 := by
  induction x generalizing y with
  | nil => cases y <;> simp [ordL]
  | cons a x ih =>
    cases y with
    | nil => simp [ordL]
    | cons b y =>
      unfold ordL
      by_cases h1 : a < b
      · rw [if_pos h1]; omega
      · rw [if_neg h1]
        by_cases h2 : b < a
        · rw [if_pos h2]; omega
        · rw [if_neg h2]; exact ih y
end Go.Proofs.YtknnjnginmkblaaDoor
