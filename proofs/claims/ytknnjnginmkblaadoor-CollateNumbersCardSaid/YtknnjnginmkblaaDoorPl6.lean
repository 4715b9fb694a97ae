/- Plainly: strings one behind the other. -/
import Derived.Test.YtknnjnginmkblaaDoorPl5
namespace Go.Proofs.YtknnjnginmkblaaDoor

theorem dec1_app {a b : List Nat} {p n : Nat} (h : dec1 a = some (p, n)) : dec1 (a ++ b) = some (p, n) := by
  match a with
  | [] => exact absurd h (by simp [dec1])
  | x :: r =>
    rw [List.cons_append]
    simp only [dec1] at h ⊢
    by_cases h1 : lenB x = 1
    · rw [if_pos h1] at h ⊢; exact h
    rw [if_neg h1] at h ⊢
    by_cases h2 : lenB x = 2
    · rw [if_pos h2] at h ⊢
      match r with
      | [] => exact absurd h (by simp [dec2])
      | c :: r => exact h
    rw [if_neg h2] at h ⊢
    by_cases h3 : lenB x = 3
    · rw [if_pos h3] at h ⊢
      match r with
      | [] => exact absurd h (by simp [dec3])
      | [c] => exact absurd h (by simp [dec3])
      | c :: d :: r => exact h
    rw [if_neg h3] at h ⊢
    by_cases h4 : lenB x = 4
    · rw [if_pos h4] at h ⊢
      match r with
      | [] => exact absurd h (by simp [dec4])
      | [c] => exact absurd h (by simp [dec4])
      | [c, d] => exact absurd h (by simp [dec4])
      | c :: d :: e :: r => exact h
    rw [if_neg h4] at h
    exact absurd h (by simp)
theorem pts_app : ∀ (n : Nat) (a b : List Nat), a.length ≤ n → (pts a).isSome = true → (pts b).isSome = true → (pts (a ++ b)).isSome = true ∧ ptL (a ++ b) = ptL a ++ ptL b
  | n, [], b, _, _, hb => by rw [List.nil_append, ptL_nil]; exact ⟨hb, rfl⟩
  | 0, _ :: _, _, h, _, _ => by simp at h
  | n + 1, x :: r, b, h, ha, hb => by
    obtain ⟨p, m, hd⟩ := pts_dec ha (by simp)
    obtain ⟨h1, h2⟩ := pts_some hd ha
    obtain ⟨m1, m2, _⟩ := dec1_size hd
    have ih := pts_app n ((x :: r).drop m) b (by rw [List.length_drop]; omega) h1 hb
    have hda := dec1_app (b := b) hd
    have hdr : (x :: r ++ b).drop m = (x :: r).drop m ++ b := List.drop_append_of_le_length m2
    obtain ⟨g1, g2⟩ := pts_front hda (by rw [hdr]; exact ih.1)
    exact ⟨g1, by rw [g2, hdr, ih.2, h2]; rfl⟩
theorem elems_app {o : Opt} (ho : o.num = false) : ∀ (x y : List Nat), elems o (x ++ y) = elems o x ++ elems o y
  | [], y => by rw [elems_nil]; rfl
  | c :: r, y => by
    rw [List.cons_append, elems_point (fun h => by rw [ho] at h; exact absurd h.1 (by simp)), elems_point (fun h => by rw [ho] at h; exact absurd h.1 (by simp)), elems_app ho r y, List.append_assoc]
theorem wts_app (f : El → Nat) (x y : List El) : wts f (x ++ y) = wts f x ++ wts f y := by
  unfold wts
  rw [List.map_append, List.filter_append]
theorem elS_app {o : Opt} (ho : o.num = false) {a b : ByteArray} (ha : (pts (bytesN a)).isSome = true) (hb : (pts (bytesN b)).isSome = true) : elS o (a ++ b) = elS o a ++ elS o b := by
  have hbn : bytesN (a ++ b) = bytesN a ++ bytesN b := by
    unfold bytesN
    rw [ByteArray.data_append]
    simp
  unfold elS
  rw [hbn, (pts_app _ _ _ (Nat.le_refl _) ha hb).2, elems_app ho]
/-- A list begins with another one. -/
def isPre (x y : List Nat) : Bool := decide (y.length ≤ x.length ∧ x.take y.length = y)
theorem isPre_app (x y : List Nat) : isPre (x ++ y) x = true := by
  unfold isPre
  simp
/-- What HasPrefix answers. -/
def preR (o : Opt) (s p : ByteArray) : Bool := decide (errC o [s, p] = 0) && isPre (wts El.p (elS o s)) (wts El.p (elS o p))
theorem ordL_iff (x y : List Nat) : ordL x y = 0 ↔ x = y := ⟨ordL_eq x y, fun h => by rw [h, ordL_refl]⟩
theorem isPre_short {x y : List Nat} (h : x.length < y.length) : isPre x y = false := by
  unfold isPre
  simp; omega
theorem isPre_long {x y : List Nat} (h : y.length ≤ x.length) : isPre x y = decide (ordL (x.take y.length) y = 0) := by
  unfold isPre
  rw [Bool.eq_iff_iff]
  simp only [decide_eq_true_eq, ordL_iff]
  exact ⟨fun hh => hh.2, fun hh => ⟨h, hh⟩⟩
end Go.Proofs.YtknnjnginmkblaaDoor
