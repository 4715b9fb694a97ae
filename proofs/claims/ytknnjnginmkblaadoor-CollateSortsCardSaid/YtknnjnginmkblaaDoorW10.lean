/- Walks: the reference's first byte. -/
import Derived.Test.YtknnjnginmkblaaDoorW2
namespace Go.Proofs.YtknnjnginmkblaaDoor
open Go.RowKit

/-- The bits of a first byte that belong to the code point. -/
def headB (a : Nat) : Nat := if lenB a = 1 then a else if lenB a = 2 then a - 192 else if lenB a = 3 then a - 224 else if lenB a = 4 then a - 240 else 0

set_option maxRecDepth 100000 in
set_option maxHeartbeats 4000000 in
theorem shape_lib (a : Nat) (w : World) (ha : a < 256) :
    Calls Tryd.prog 44 #[.int .u8 (a : Int)] w fun e w' => e = .returned (.tuple #[.int .i64 (lenB a : Int), .int .i64 (headB a : Int)]) ∧ w = w' := by
  have hc : (a < 128) ∨ (128 ≤ a ∧ a < 194) ∨ (194 ≤ a ∧ a ≤ 223) ∨ (224 ≤ a ∧ a ≤ 239) ∨ (240 ≤ a ∧ a ≤ 244) ∨ (244 < a) := by omega
  rcases hc with h | h | h | h | h | h
  · have hl : lenB a = 1 := by
      unfold lenB
      repeat' split
      all_goals omega
    have hh : headB a = a := by unfold headB; rw [hl]; simp
    have HV := Lib.hid (And.intro hl hh)
    have d1 : decide ((a : Int) < 128) = true := by simp; omega
    have d2 : decide (194 ≤ (a : Int)) = false := by simp; omega
    have d3 : decide ((a : Int) ≤ 223) = true := by simp; omega
    have d4 : decide (224 ≤ (a : Int)) = false := by simp; omega
    have d5 : decide ((a : Int) ≤ 239) = true := by simp; omega
    have d6 : decide (240 ≤ (a : Int)) = false := by simp; omega
    have d7 : decide ((a : Int) ≤ 244) = true := by simp; omega
    clear h hl hh
    go_enter Tryd.func44, Tryd.ntmps44
    go_wp2_with fail
    go_ret2
    exact ⟨ret_two (by rw [HV.out.1]; rfl) (by rw [HV.out.2]), rfl⟩
  · have hl : lenB a = 0 := by
      unfold lenB
      repeat' split
      all_goals omega
    have hh : headB a = 0 := by unfold headB; rw [hl]; simp
    have HV := Lib.hid (And.intro hl hh)
    have d1 : decide ((a : Int) < 128) = false := by simp; omega
    have d2 : decide (194 ≤ (a : Int)) = false := by simp; omega
    have d3 : decide ((a : Int) ≤ 223) = true := by simp; omega
    have d4 : decide (224 ≤ (a : Int)) = false := by simp; omega
    have d5 : decide ((a : Int) ≤ 239) = true := by simp; omega
    have d6 : decide (240 ≤ (a : Int)) = false := by simp; omega
    have d7 : decide ((a : Int) ≤ 244) = true := by simp; omega
    clear h hl hh
    go_enter Tryd.func44, Tryd.ntmps44
    go_wp2_with fail
    go_ret2
    exact ⟨ret_two (by rw [HV.out.1]; rfl) (by rw [HV.out.2]; rfl), rfl⟩
  · have hl : lenB a = 2 := by
      unfold lenB
      repeat' split
      all_goals omega
    have hh : headB a = a - 192 := by unfold headB; rw [hl]; simp
    have HV := Lib.hid (And.intro hl hh)
    have d1 : decide ((a : Int) < 128) = false := by simp; omega
    have d2 : decide (194 ≤ (a : Int)) = true := by simp; omega
    have d3 : decide ((a : Int) ≤ 223) = true := by simp; omega
    have d4 : decide (224 ≤ (a : Int)) = false := by simp; omega
    have d5 : decide ((a : Int) ≤ 239) = true := by simp; omega
    have d6 : decide (240 ≤ (a : Int)) = false := by simp; omega
    have d7 : decide ((a : Int) ≤ 244) = true := by simp; omega
    have e1 : IntKind.i64.wrap ((a : Int) - 192) = ((a - 192 : Nat) : Int) := by rw [IntWalk.i64_in _ (by omega)]; omega
    clear h hl hh
    go_enter Tryd.func44, Tryd.ntmps44
    go_wp2_with fail
    go_ret2
    exact ⟨ret_two (by rw [HV.out.1]; rfl) (by rw [HV.out.2]), rfl⟩
  · have hl : lenB a = 3 := by
      unfold lenB
      repeat' split
      all_goals omega
    have hh : headB a = a - 224 := by unfold headB; rw [hl]; simp
    have HV := Lib.hid (And.intro hl hh)
    have d1 : decide ((a : Int) < 128) = false := by simp; omega
    have d2 : decide (194 ≤ (a : Int)) = true := by simp; omega
    have d3 : decide ((a : Int) ≤ 223) = false := by simp; omega
    have d4 : decide (224 ≤ (a : Int)) = true := by simp; omega
    have d5 : decide ((a : Int) ≤ 239) = true := by simp; omega
    have d6 : decide (240 ≤ (a : Int)) = false := by simp; omega
    have d7 : decide ((a : Int) ≤ 244) = true := by simp; omega
    have e1 : IntKind.i64.wrap ((a : Int) - 224) = ((a - 224 : Nat) : Int) := by rw [IntWalk.i64_in _ (by omega)]; omega
    clear h hl hh
    go_enter Tryd.func44, Tryd.ntmps44
    go_wp2_with fail
    go_ret2
    exact ⟨ret_two (by rw [HV.out.1]; rfl) (by rw [HV.out.2]), rfl⟩
  · have hl : lenB a = 4 := by
      unfold lenB
      repeat' split
      all_goals omega
    have hh : headB a = a - 240 := by unfold headB; rw [hl]; simp
    have HV := Lib.hid (And.intro hl hh)
    have d1 : decide ((a : Int) < 128) = false := by simp; omega
    have d2 : decide (194 ≤ (a : Int)) = true := by simp; omega
    have d3 : decide ((a : Int) ≤ 223) = false := by simp; omega
    have d4 : decide (224 ≤ (a : Int)) = true := by simp; omega
    have d5 : decide ((a : Int) ≤ 239) = false := by simp; omega
    have d6 : decide (240 ≤ (a : Int)) = true := by simp; omega
    have d7 : decide ((a : Int) ≤ 244) = true := by simp; omega
    have e1 : IntKind.i64.wrap ((a : Int) - 240) = ((a - 240 : Nat) : Int) := by rw [IntWalk.i64_in _ (by omega)]; omega
    clear h hl hh
    go_enter Tryd.func44, Tryd.ntmps44
    go_wp2_with fail
    go_ret2
    exact ⟨ret_two (by rw [HV.out.1]; rfl) (by rw [HV.out.2]), rfl⟩
  · have hl : lenB a = 0 := by
      unfold lenB
      repeat' split
      all_goals omega
    have hh : headB a = 0 := by unfold headB; rw [hl]; simp
    have HV := Lib.hid (And.intro hl hh)
    have d1 : decide ((a : Int) < 128) = false := by simp; omega
    have d2 : decide (194 ≤ (a : Int)) = true := by simp; omega
    have d3 : decide ((a : Int) ≤ 223) = false := by simp; omega
    have d4 : decide (224 ≤ (a : Int)) = true := by simp; omega
    have d5 : decide ((a : Int) ≤ 239) = false := by simp; omega
    have d6 : decide (240 ≤ (a : Int)) = true := by simp; omega
    have d7 : decide ((a : Int) ≤ 244) = false := by simp; omega
    clear h hl hh
    go_enter Tryd.func44, Tryd.ntmps44
    go_wp2_with fail
    go_ret2
    exact ⟨ret_two (by rw [HV.out.1]; rfl) (by rw [HV.out.2]; rfl), rfl⟩
end Go.Proofs.YtknnjnginmkblaaDoor
