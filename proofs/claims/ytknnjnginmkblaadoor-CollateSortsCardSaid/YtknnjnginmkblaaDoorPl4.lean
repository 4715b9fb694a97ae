/- Plainly: the elements of a valid string, read byte by byte. -/
import Derived.Test.YtknnjnginmkblaaDoorPl3
namespace Go.Proofs.YtknnjnginmkblaaDoor

theorem digB_lt {c : Nat} (h : digB c = true) : c < 128 := by unfold digB at h; simp at h; omega
theorem dec1_ascii {c : Nat} {r : List Nat} (h : c < 128) : dec1 (c :: r) = some (c, 1) := by
  simp only [dec1]
  rw [if_pos (lenB_1.2 h)]
theorem dec1_big {a p n : Nat} {r : List Nat} (h : dec1 (a :: r) = some (p, n)) (h1 : ¬ lenB a = 1) : 128 ≤ p := by
  simp only [dec1] at h
  rw [if_neg h1] at h
  by_cases h2 : lenB a = 2
  · rw [if_pos h2] at h
    match r with
    | [] => exact absurd h (by simp [dec2])
    | b :: r =>
      simp only [dec2] at h
      by_cases hs : secB a b = true
      · rw [if_pos hs] at h
        rw [lenB_2] at h2
        injection h with h
        injection h with h _
        omega
      · rw [if_neg hs] at h; exact absurd h (by simp)
  rw [if_neg h2] at h
  by_cases h3 : lenB a = 3
  · rw [if_pos h3] at h
    match r with
    | [] => exact absurd h (by simp [dec3])
    | [b] => exact absurd h (by simp [dec3])
    | b :: c :: r =>
      simp only [dec3] at h
      by_cases hs : secB a b = true ∧ contB c = true
      · rw [if_pos hs] at h
        have := ((ref3 h3 (secB_cont hs.1) hs.2).1 hs.1).1
        injection h with h
        injection h with h _
        omega
      · rw [if_neg hs] at h; exact absurd h (by simp)
  rw [if_neg h3] at h
  by_cases h4 : lenB a = 4
  · rw [if_pos h4] at h
    match r with
    | [] => exact absurd h (by simp [dec4])
    | [b] => exact absurd h (by simp [dec4])
    | [b, c] => exact absurd h (by simp [dec4])
    | b :: c :: d :: r =>
      simp only [dec4] at h
      by_cases hs : secB a b = true ∧ contB c = true ∧ contB d = true
      · rw [if_pos hs] at h
        have := ((ref4 h4 (secB_cont hs.1) hs.2.1 hs.2.2).1 hs.1).1
        injection h with h
        injection h with h _
        omega
      · rw [if_neg hs] at h; exact absurd h (by simp)
  rw [if_neg h4] at h
  exact absurd h (by simp)
/-- The points of a string; those of a string that is not valid are of no account. -/
def ptL (l : List Nat) : List Nat := ((pts l).getD []).map Prod.fst
theorem ptL_nil : ptL [] = [] := by unfold ptL; rw [pts_nil]; rfl
theorem pts_some {l : List Nat} {p n : Nat} (h : dec1 l = some (p, n)) (hv : (pts l).isSome = true) : (pts (l.drop n)).isSome = true ∧ ptL l = p :: ptL (l.drop n) := by
  rw [pts_cons h] at hv
  cases hp : pts (l.drop n) with
  | none => rw [hp] at hv; cases hv
  | some t =>
    refine ⟨rfl, ?_⟩
    unfold ptL
    rw [pts_cons h, hp]
    rfl
theorem pts_dec {l : List Nat} (hv : (pts l).isSome = true) (hl : l ≠ []) : ∃ p n, dec1 l = some (p, n) := by
  cases h : dec1 l with
  | none => rw [pts_bad h hl] at hv; cases hv
  | some x => exact ⟨x.1, x.2, rfl⟩
/-- A run of digits ahead: the same in bytes and in points. -/
theorem digits_pts : ∀ (l : List Nat), (pts l).isSome = true → (ptL l).takeWhile digB = l.takeWhile digB ∧ (pts (l.dropWhile digB)).isSome = true ∧ ptL (l.dropWhile digB) = (ptL l).dropWhile digB
  | [], h => ⟨by rw [ptL_nil], h, by show ptL [] = _; rw [ptL_nil]; rfl⟩
  | c :: r, h => by
    by_cases hc : digB c = true
    · have hd : dec1 (c :: r) = some (c, 1) := dec1_ascii (digB_lt hc)
      obtain ⟨h1, h2⟩ := pts_some hd h
      rw [List.drop_one, List.tail_cons] at h1 h2
      obtain ⟨i1, i2, i3⟩ := digits_pts r h1
      rw [h2, List.takeWhile_cons_of_pos hc, List.takeWhile_cons_of_pos hc, List.dropWhile_cons_of_pos hc, List.dropWhile_cons_of_pos hc]
      exact ⟨by rw [i1], i2, i3⟩
    · obtain ⟨p, n, hd⟩ := pts_dec h (by simp)
      obtain ⟨h1, h2⟩ := pts_some hd h
      have hp : ¬ digB p = true := fun hp => by
        -- a point that is a digit is its byte
        have : p = c := by
          by_cases a1 : lenB c = 1
          · simp only [dec1] at hd
            rw [if_pos a1] at hd
            injection hd with hd
            injection hd with hd _
            exact hd.symm
          · have hbig := dec1_big hd a1
            have := digB_lt hp
            omega
        rw [this] at hp
        exact hc hp
      rw [h2, List.takeWhile_cons_of_neg hp, List.takeWhile_cons_of_neg hc, List.dropWhile_cons_of_neg hp, List.dropWhile_cons_of_neg hc]
      exact ⟨rfl, h, h2⟩
/-- What a round of the program's loop reads. -/
theorem elems_run {o : Opt} {c : Nat} {r : List Nat} (h1 : o.num = true) (h2 : digB c = true) (hv : (pts (c :: r)).isSome = true) :
    elems o (ptL (c :: r)) = numberE (c :: r.takeWhile digB) ++ elems o (ptL (r.dropWhile digB)) ∧ (pts (r.dropWhile digB)).isSome = true := by
  obtain ⟨g1, g2⟩ := pts_some (dec1_ascii (r := r) (digB_lt h2)) hv
  rw [List.drop_one, List.tail_cons] at g1 g2
  obtain ⟨i1, i2, i3⟩ := digits_pts r g1
  rw [g2, elems_num h1 h2, i1, i3]
  exact ⟨rfl, i2⟩
theorem elems_one {o : Opt} {l : List Nat} {p n : Nat} (hd : dec1 l = some (p, n)) (hv : (pts l).isSome = true) (h : ¬ (o.num = true ∧ ∃ c r, l = c :: r ∧ digB c = true)) :
    elems o (ptL l) = pointE p o ++ elems o (ptL (l.drop n)) ∧ (pts (l.drop n)).isSome = true := by
  obtain ⟨g1, g2⟩ := pts_some hd hv
  rw [g2]
  refine ⟨elems_point fun ⟨h1, h2⟩ => h ⟨h1, ?_⟩, g1⟩
  match l with
  | [] => exact absurd hd (by simp [dec1])
  | c :: r =>
    refine ⟨c, r, rfl, ?_⟩
    by_cases a1 : lenB c = 1
    · simp only [dec1] at hd
      rw [if_pos a1] at hd
      injection hd with hd
      injection hd with hd _
      rw [hd]; exact h2
    · have := dec1_big hd a1
      have := digB_lt h2
      omega
end Go.Proofs.YtknnjnginmkblaaDoor
