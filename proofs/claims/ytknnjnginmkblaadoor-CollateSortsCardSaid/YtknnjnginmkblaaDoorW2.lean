/- Walks: a code point decoded. -/
import Derived.Test.YtknnjnginmkblaaDoorW1
namespace Go.Proofs.YtknnjnginmkblaaDoor
open Go.RowKit

theorem i64_and_nat (a b : Nat) (ha : a < 9223372036854775808) (hb : b < 9223372036854775808) : bits BinOp.and IntKind.i64 (a : Int) (b : Int) = ((a &&& b : Nat) : Int) := by
  have hx : a &&& b < 2 ^ 63 := Nat.and_lt_two_pow _ (by omega)
  show IntKind.i64.wrap ((BitVec.ofInt 64 (a : Int) &&& BitVec.ofInt 64 (b : Int)).toNat : Int) = _
  rw [BitVec.toNat_and, ofInt_u64 a (by omega), ofInt_u64 b (by omega)]
  exact IntWalk.i64_in _ (by omega)
theorem i64_or_nat (a b : Nat) (ha : a < 9223372036854775808) (hb : b < 9223372036854775808) : bits BinOp.or IntKind.i64 (a : Int) (b : Int) = ((a ||| b : Nat) : Int) := by
  have hx : a ||| b < 2 ^ 63 := Nat.or_lt_two_pow (by omega) (by omega)
  show IntKind.i64.wrap ((BitVec.ofInt 64 (a : Int) ||| BitVec.ofInt 64 (b : Int)).toNat : Int) = _
  rw [BitVec.toNat_or, ofInt_u64 a (by omega), ofInt_u64 b (by omega)]
  exact IntWalk.i64_in _ (by omega)
theorem and_mask (a i m : Nat) (ha : a < 256) (hm : m = 2 ^ i - 1) (hi : m < 256) : bits BinOp.and IntKind.i64 (a : Int) (m : Int) = ((a % 2 ^ i : Nat) : Int) := by
  rw [i64_and_nat a m (by omega) (by omega), hm, Nat.and_two_pow_sub_one_eq_mod]
theorem or_six (acc b : Nat) (h1 : acc < 2097152) (hb : b < 64) : bits BinOp.or IntKind.i64 ((acc * 64 : Nat) : Int) (b : Int) = ((acc * 64 + b : Nat) : Int) := by
  rw [i64_or_nat _ _ (by omega) (by omega)]
  have := (Nat.two_pow_add_eq_or_of_lt (i := 6) hb acc).symm
  rw [show acc * 64 = 2 ^ 6 * acc by omega, this]

/-- What is left to read of a code point. -/
def decR (acc lo hi : Nat) : Nat → List Nat → Option Nat
  | 0, _ => some acc
  | _ + 1, [] => none
  | n + 1, b :: r => if lo ≤ b ∧ b ≤ hi then decR (acc * 64 + (b - 128)) 128 191 n r else none
theorem dec1_one {a : Nat} {r : List Nat} (h : lenB a = 1) : dec1 (a :: r) = some (a, 1) := by simp only [dec1]; rw [if_pos h]
theorem dec1_zero {a : Nat} {r : List Nat} (h : lenB a = 0) : dec1 (a :: r) = none := by simp only [dec1]; rw [h]; rfl
theorem dec1_two {a : Nat} {r : List Nat} (h : lenB a = 2) : dec1 (a :: r) = (decR (a % 32) (lowB a) (highB a) 1 r).map fun p => (p, 2) := by
  simp only [dec1]
  rw [h]
  have hm : a % 32 = a - 192 := by rw [lenB_2] at h; omega
  match r with
  | [] => rfl
  | b :: r =>
    show dec2 a (b :: r) = _
    simp only [dec2, decR]
    by_cases hs : secB a b = true
    · rw [if_pos hs, if_pos ((secB_iff a b).1 hs), hm]; rfl
    · rw [if_neg hs, if_neg fun h => hs ((secB_iff a b).2 h)]; rfl
theorem dec1_three {a : Nat} {r : List Nat} (h : lenB a = 3) : dec1 (a :: r) = (decR (a % 16) (lowB a) (highB a) 2 r).map fun p => (p, 3) := by
  simp only [dec1]
  rw [h]
  have hm : a % 16 = a - 224 := by rw [lenB_3] at h; omega
  match r with
  | [] => rfl
  | [b] => 
    show dec3 a [b] = _
    simp only [dec3, decR]
    split <;> rfl
  | b :: c :: r =>
    show dec3 a (b :: c :: r) = _
    simp only [dec3, decR]
    by_cases hs : secB a b = true
    · rw [if_pos ((secB_iff a b).1 hs), hm]
      by_cases ht : contB c = true
      · rw [if_pos ⟨hs, ht⟩, if_pos ((contB_iff c).1 ht)]; rfl
      · rw [if_neg fun h => ht h.2, if_neg fun h => ht ((contB_iff c).2 h)]; rfl
    · rw [if_neg fun h => hs h.1, if_neg fun h => hs ((secB_iff a b).2 h)]; rfl
theorem dec1_four {a : Nat} {r : List Nat} (h : lenB a = 4) : dec1 (a :: r) = (decR (a % 8) (lowB a) (highB a) 3 r).map fun p => (p, 4) := by
  simp only [dec1]
  rw [h]
  have hm : a % 8 = a - 240 := by rw [lenB_4] at h; omega
  match r with
  | [] => rfl
  | [b] =>
    show dec4 a [b] = _
    simp only [dec4, decR]
    split <;> rfl
  | [b, c] =>
    show dec4 a [b, c] = _
    simp only [dec4, decR]
    split <;> first | rfl | (split <;> rfl)
  | b :: c :: d :: r =>
    show dec4 a (b :: c :: d :: r) = _
    simp only [dec4, decR]
    by_cases hs : secB a b = true
    · rw [if_pos ((secB_iff a b).1 hs), hm]
      by_cases ht : contB c = true
      · rw [if_pos ((contB_iff c).1 ht)]
        by_cases hu : contB d = true
        · rw [if_pos ⟨hs, ht, hu⟩, if_pos ((contB_iff d).1 hu)]; rfl
        · rw [if_neg fun h => hu h.2.2, if_neg fun h => hu ((contB_iff d).2 h)]; rfl
      · rw [if_neg fun h => ht h.2.1, if_neg fun h => ht ((contB_iff c).2 h)]; rfl
    · rw [if_neg fun h => hs h.1, if_neg fun h => hs ((secB_iff a b).2 h)]; rfl

def bytesN (s : ByteArray) : List Nat := s.data.toList.map UInt8.toNat
theorem bytesN_lt (s : ByteArray) : ∀ b ∈ bytesN s, b < 256 := fun b hb => by
  obtain ⟨c, _, rfl⟩ := List.mem_map.1 hb
  exact c.toNat_lt
theorem bytesN_length (s : ByteArray) : (bytesN s).length = s.size := by simp [bytesN]
theorem bytesN_drop (s : ByteArray) (k : Nat) (h : k < s.size) : (bytesN s).drop k = s[k].toNat :: (bytesN s).drop (k + 1) := by
  rw [List.drop_eq_getElem_cons (by rw [bytesN_length]; exact h)]
  congr 1
  simp only [bytesN, List.getElem_map]
  rfl
theorem bytesN_get (s : ByteArray) (k : Nat) (h : k < s.size) : (bytesN s)[k]? = some s[k].toNat := by
  have := bytesN_drop s k h
  have h2 : (bytesN s)[k]? = ((bytesN s).drop k)[0]? := by rw [List.getElem?_drop]; rfl
  rw [h2, this]; rfl
end Go.Proofs.YtknnjnginmkblaaDoor
