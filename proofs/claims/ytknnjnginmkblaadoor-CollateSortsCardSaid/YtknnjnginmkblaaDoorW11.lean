/- Walks: the reference's digits; the check of options. -/
import Derived.Test.YtknnjnginmkblaaDoorW5
namespace Go.Proofs.YtknnjnginmkblaaDoor
open Go.RowKit

set_option maxRecDepth 100000 in
set_option maxHeartbeats 4000000 in
theorem isDigit_lib (c : Nat) (w : World) :
    Calls Tryd.prog 45 #[.int .i64 (c : Int)] w fun e w' => e = .returned (.bool (digB c)) ∧ w = w' := by
  have hc : c < 48 ∨ (48 ≤ c ∧ c ≤ 57) ∨ 57 < c := by omega
  rcases hc with h | h | h
  all_goals
    have HL : Hid (digB c = (decide (48 ≤ c ∧ c ≤ 57))) := Lib.hid rfl
    go_enter Tryd.func45, Tryd.ntmps45
    go_wp2_with fail
    go_ret
    exact ⟨ret_bool (by rw [HL.out, Bool.eq_iff_iff]; simp; omega), rfl⟩

/-- What the check of options answers. -/
def chkO (st : Int) : Int := if st < 1 ∨ 4 < st then 5 else 0

set_option maxRecDepth 100000 in
set_option maxHeartbeats 4000000 in
theorem check_lib (o : Opt) (w : World) :
    Calls Tryd.prog 26 #[optV o] w fun e w' => e = .returned (.int .i64 (chkO o.strength)) ∧ Below w.heap.size w w' := by
  obtain ⟨st, num, ign, up⟩ := o
  show Calls Tryd.prog 26 #[.agg #[.int .i64 st, .bool num, .bool ign, .bool up]] w fun e w' => e = .returned (.int .i64 (chkO st)) ∧ Below w.heap.size w w'
  have hc : st < 1 ∨ (1 ≤ st ∧ st ≤ 4) ∨ 4 < st := by omega
  rcases hc with h | h | h
  · have HL : Hid (chkO st = 5) := Lib.hid (if_pos (Or.inl h))
    have d1 : decide (st < 1) = true := by simp; omega
    go_enter Tryd.func26, Tryd.ntmps26
    go_wp2_with fail
    go_ret
    exact ⟨ret_int HL.out.symm, (Below.refl _ _).alloc (Nat.le_refl _) _⟩
  · have HL : Hid (chkO st = 0) := Lib.hid (if_neg (by omega))
    have d1 : decide (st < 1) = false := by simp; omega
    have d2 : decide (4 < st) = false := by simp; omega
    go_enter Tryd.func26, Tryd.ntmps26
    go_wp2_with fail
    go_ret
    exact ⟨ret_int HL.out.symm, (Below.refl _ _).alloc (Nat.le_refl _) _⟩
  · have HL : Hid (chkO st = 5) := Lib.hid (if_pos (Or.inr h))
    have d1 : decide (st < 1) = false := by simp; omega
    have d2 : decide (4 < st) = true := by simp; omega
    go_enter Tryd.func26, Tryd.ntmps26
    go_wp2_with fail
    go_ret
    exact ⟨ret_int HL.out.symm, (Below.refl _ _).alloc (Nat.le_refl _) _⟩
end Go.Proofs.YtknnjnginmkblaaDoor
