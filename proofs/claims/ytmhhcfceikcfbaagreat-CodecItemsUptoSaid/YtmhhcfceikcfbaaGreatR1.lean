/- Walks: the readers' numbers. -/
import Derived.Test.YtmhhcfceikcfbaaGreatW1
import Derived.BigQuiet
import Derived.Laws.IdiomStrings
namespace Go.Proofs.YtmhhcfceikcfbaaGreat
open Go.RowKit

/-- A reader's block. -/
def Rdr (ty : TypeId) (r : Nat) (s : ByteArray) (k : Nat) (e : Int) (w : World) : Prop := w.heap[r]? = some (.cells #[.string s, .int .i64 (k : Int), .int .i64 e] ty (0, 0))
theorem Rdr.cells {ty : TypeId} {r k : Nat} {s : ByteArray} {e : Int} {w : World} (h : Rdr ty r s k e w) :
    w.cell? ⟨r, 0, none⟩ = some (.string s) ∧ w.cell? ⟨r, 1, none⟩ = some (.int .i64 (k : Int)) ∧ w.cell? ⟨r, 2, none⟩ = some (.int .i64 e) ∧ w.frozen? ⟨r, 1, none⟩ = false ∧ w.frozen? ⟨r, 2, none⟩ = false :=
  ⟨blk_cell h 0, blk_cell h 1, blk_cell h 2, blk_free h 1, blk_free h 2⟩
theorem Rdr.setAt {ty : TypeId} {r k : Nat} {s : ByteArray} {e : Int} {w : World} (h : Rdr ty r s k e w) (k' : Nat) : Rdr ty r s k' e (w.setCell ⟨r, 1, none⟩ (.int .i64 (k' : Int))) :=
  heap_setCell_same w r 1 #[.string s, .int .i64 (k : Int), .int .i64 e] ty (.int .i64 (k' : Int)) h
theorem Rdr.setErr {ty : TypeId} {r k : Nat} {s : ByteArray} {e : Int} {w : World} (h : Rdr ty r s k e w) (e' : Int) : Rdr ty r s k e' (w.setCell ⟨r, 2, none⟩ (.int .i64 e')) :=
  heap_setCell_same w r 2 #[.string s, .int .i64 (k : Int), .int .i64 e] ty (.int .i64 e') h
theorem grown_set (w : World) (g j : Nat) (u : Value) : w.grownBy (w.setCell ⟨g, j, none⟩ u) (some g) :=
  ⟨rfl, rfl, rfl, by simp, fun k _ hk => heap_setCell_other w ⟨g, j, none⟩ k u (fun e => hk (by simp [e]))⟩
theorem grown_trans {a b c : World} {row : Option Nat} (h : a.grownBy b row) (k : b.grownBy c row) : a.grownBy c row :=
  ⟨k.os.trans h.os, k.tape.trans h.tape, k.output.trans h.output, Nat.le_trans h.size k.size, fun i hi hr => (k.block i (Nat.lt_of_lt_of_le hi h.size) hr).trans (h.block i hi hr)⟩
theorem grown_drewN {a b : World} {row : Option Nat} (h : a.grownBy b row) (n : Nat) : a.grownBy (b.drewN n) row := ⟨h.os, h.tape, h.output, h.size, h.block⟩
theorem Rdr.drewN {ty : TypeId} {r k : Nat} {s : ByteArray} {e : Int} {w : World} (h : Rdr ty r s k e w) (n : Nat) : Rdr ty r s k e (w.drewN n) := h
/-- What a reading at a place comes to. -/
def Res {α : Type} (p : Rd α) (s : ByteArray) (k : Nat) (e : Int) (x : α) (k' : Nat) (e' : Int) : Prop :=
  k' ≤ s.size ∧ (e ≠ 0 → e' = e) ∧ (e = 0 → match p ((bytesN s).drop k) with | .ok y n => x = y ∧ k' = k + n ∧ e' = 0 | .err E => e' = E ∧ E ≠ 0)
theorem byte_at {s : ByteArray} {k : Nat} (h : k < s.size) : (bytesN s).drop k = s[k].toNat :: (bytesN s).drop (k + 1) := by
  have hl : k < (bytesN s).length := by rw [bytesN_length]; exact h
  rw [List.drop_eq_getElem_cons hl]
  congr 1
  simp [bytesN]
  rfl

set_option maxRecDepth 100000 in
set_option maxHeartbeats 1000000 in
theorem fail97 (r k : Nat) (s : ByteArray) (E : Int) (w : World) (h : Rdr 99 r s k 0 w) :
    Calls Tryz.prog 97 #[.pointer (some ⟨r, 0, none⟩), .int .i64 E] w fun e w' => e = .returned (.tuple #[]) ∧ Rdr 99 r s k E w' ∧ w.grownBy w' (some r) := by
  obtain ⟨c0, c1, c2, f1, f2⟩ := h.cells
  have HS := Lib.hid (h.setErr E)
  clear h
  go_enter Tryz.func97, Tryz.ntmps97
  go_wp2_with fail
  go_end0
  exact ⟨rfl, HS.out, grown_set _ _ _ _⟩
set_option maxRecDepth 100000 in
set_option maxHeartbeats 1000000 in
theorem fail97_no (r k : Nat) (s : ByteArray) (e0 E : Int) (w : World) (h : Rdr 99 r s k e0 w) (he : e0 ≠ 0) :
    Calls Tryz.prog 97 #[.pointer (some ⟨r, 0, none⟩), .int .i64 E] w fun e w' => e = .returned (.tuple #[]) ∧ w = w' := by
  obtain ⟨c0, c1, c2, f1, f2⟩ := h.cells
  have d0 : (e0 == 0) = false := by simpa using he
  clear h
  go_enter Tryz.func97, Tryz.ntmps97
  go_wp2_with fail
  go_end0
  exact ⟨rfl, rfl⟩

set_option maxRecDepth 100000 in
set_option maxHeartbeats 1000000 in
theorem fail44 (r k : Nat) (s : ByteArray) (E : Int) (w : World) (h : Rdr 30 r s k 0 w) :
    Calls Tryz.prog 44 #[.pointer (some ⟨r, 0, none⟩), .int .i64 E] w fun e w' => e = .returned (.tuple #[]) ∧ Rdr 30 r s k E w' ∧ w.grownBy w' (some r) := by
  obtain ⟨c0, c1, c2, f1, f2⟩ := h.cells
  have HS := Lib.hid (h.setErr E)
  clear h
  go_enter Tryz.func44, Tryz.ntmps44
  go_wp2_with fail
  go_end0
  exact ⟨rfl, HS.out, grown_set _ _ _ _⟩
set_option maxRecDepth 100000 in
set_option maxHeartbeats 1000000 in
theorem fail44_no (r k : Nat) (s : ByteArray) (e0 E : Int) (w : World) (h : Rdr 30 r s k e0 w) (he : e0 ≠ 0) :
    Calls Tryz.prog 44 #[.pointer (some ⟨r, 0, none⟩), .int .i64 E] w fun e w' => e = .returned (.tuple #[]) ∧ w = w' := by
  obtain ⟨c0, c1, c2, f1, f2⟩ := h.cells
  have d0 : (e0 == 0) = false := by simpa using he
  clear h
  go_enter Tryz.func44, Tryz.ntmps44
  go_wp2_with fail
  go_end0
  exact ⟨rfl, rfl⟩
/-- Within a number: what the digits from here on come to. -/
def NumS (s : ByteArray) (k0 : Nat) (R : Rs Int) (i u k : Nat) : Prop := k = k0 + i ∧ R = ((rdV i u ((bytesN s).drop k)).more i).map unzz
theorem dig_or {u v i : Nat} (hu : u < 128 ^ i) (hv : v < 128) (hs : u + v * 128 ^ i < 18446744073709551616) :
    IntKind.u64.wrap ((v : Int) * 2 ^ (7 * i)) = ((v * 128 ^ i : Nat) : Int) ∧ bits .or .u64 (u : Int) ((v * 128 ^ i : Nat) : Int) = ((u + v * 128 ^ i : Nat) : Int) := by
  have hp : (128 : Nat) ^ i = 2 ^ (7 * i) := by rw [Nat.pow_mul]
  have hc : (v : Int) * 2 ^ (7 * i) = ((v * 128 ^ i : Nat) : Int) := by rw [hp]; push_cast; rfl
  refine ⟨by rw [hc, IntKind.wrap_u64]; omega, ?_⟩
  rw [bits_or_u64_nat _ _ (by omega) (by omega)]
  congr 1
  have := Nat.two_pow_add_eq_or_of_lt (i := 7 * i) (b := u) (by rw [← hp]; exact hu) v
  rw [hp] at *
  rw [Nat.or_comm, Nat.mul_comm v, ← this, Nat.add_comm]
theorem rdV_bad {i u b : Nat} {r : List Nat} (h : (i = 9 ∧ 1 < b) ∨ (0 < i ∧ b = 0)) : rdV i u (b :: r) = .err 15 := by rw [rdV, if_pos h]
theorem rdV_last {i u b : Nat} {r : List Nat} (h : ¬ ((i = 9 ∧ 1 < b) ∨ (0 < i ∧ b = 0))) (hb : b < 128) : rdV i u (b :: r) = .ok (u + b * 128 ^ i) 1 := by rw [rdV, if_neg h, if_pos hb]
theorem rdV_more {i u b : Nat} {r : List Nat} (h : ¬ ((i = 9 ∧ 1 < b) ∨ (0 < i ∧ b = 0))) (hb : ¬ b < 128) : rdV i u (b :: r) = (rdV (i + 1) (u + (b - 128) * 128 ^ i) r).more 1 := by rw [rdV, if_neg h, if_neg hb]
theorem pow_le9 {i : Nat} (h : i ≤ 8) : (128 : Nat) ^ i * 128 ≤ 9223372036854775808 := by
  have : (128 : Nat) ^ (i + 1) ≤ 128 ^ 9 := Nat.pow_le_pow_right (by decide) (by omega)
  rw [Nat.pow_succ] at this
  omega
theorem dig_lt {u b i : Nat} (hu : u < 128 ^ i) (hi : i ≤ 9) (hb : b < 256) (hg : ¬ ((i = 9 ∧ 1 < b) ∨ (0 < i ∧ b = 0))) : u + b % 128 * 128 ^ i < 18446744073709551616 ∧ (i < 9 → u + b % 128 * 128 ^ i < 128 ^ (i + 1)) := by
  by_cases h9 : i = 9
  · subst h9
    have : b ≤ 1 := by
      rcases Nat.lt_or_ge 1 b with h | h
      · exact absurd (.inl ⟨rfl, h⟩) hg
      · exact h
    have h2 : b % 128 = b := Nat.mod_eq_of_lt (by omega)
    rw [h2]
    have := Nat.mul_le_mul_right (128 ^ 9) this
    refine ⟨by omega, fun h => by omega⟩
  · have h1 : b % 128 ≤ 127 := by omega
    have h2 := Nat.mul_le_mul_right (128 ^ i) h1
    have h3 := pow_le9 (i := i) (by omega)
    rw [Nat.pow_succ]
    refine ⟨by omega, fun _ => by omega⟩
theorem unzz_even {u : Nat} (h : u % 2 = 0) : unzz u = ((u / 2 : Nat) : Int) := by unfold unzz; rw [if_neg (by omega)]
theorem unzz_odd {u : Nat} (h : u % 2 = 1) : unzz u = -((u / 2 : Nat) : Int) - 1 := by unfold unzz; rw [if_pos h]
theorem xor_zero64 (h : Nat) (hh : h < 9223372036854775808) : bits .xor .i64 (h : Int) 0 = (h : Int) := by
  show IntKind.i64.wrap ((BitVec.ofInt 64 (h : Int) ^^^ BitVec.ofInt 64 0).toNat : Int) = _
  have h2 : (BitVec.ofInt 64 (h : Int)).toNat = h := by
    rw [BitVec.ofInt_natCast, BitVec.toNat_ofNat]; exact Nat.mod_eq_of_lt (by omega)
  have h1 : (BitVec.ofInt 64 0).toNat = 0 := by decide
  rw [BitVec.toNat_xor, h1, h2, Nat.xor_zero, IntKind.wrap_i64]
  omega
theorem xor_ones (h : Nat) (hh : h < 9223372036854775808) : bits .xor .i64 (h : Int) (-1) = -(h : Int) - 1 := by
  rw [← Lib.i64_not h hh]
  show IntKind.i64.wrap ((BitVec.ofInt 64 (h : Int) ^^^ BitVec.ofInt 64 (-1)).toNat : Int) = IntKind.i64.wrap ((BitVec.ofInt 64 (-1) ^^^ BitVec.ofInt 64 (h : Int)).toNat : Int)
  rw [BitVec.xor_comm]
/-- The complement of a half. -/
theorem not_half (h : Nat) (hh : h < 9223372036854775808) : bits .xor .u64 IntKind.u64.max (h : Int) = ((18446744073709551615 - h : Nat) : Int) ∧ IntKind.i64.wrap ((18446744073709551615 - h : Nat) : Int) = -(h : Int) - 1 := by
  have e2 : IntKind.u64.max = ((2 ^ 64 - 1 : Nat) : Int) := by decide
  refine ⟨?_, by rw [IntKind.wrap_i64]; omega⟩
  rw [e2, bits_xor_u64_nat _ _ (by decide) (by omega), Lib.xor_ones64 _ (by omega)]
end Go.Proofs.YtmhhcfceikcfbaaGreat
