/- Walks: the first byte of an encoding. -/
import Derived.Test.YtknnjnginmkblaaDoorLib
import Derived.Test.YtknnjnginmkblaaDoorPl4
import Derived.Test.YtknnjnginmkblaaDoorProg
import Derived.Laws.Shifts
namespace Go.Proofs.YtknnjnginmkblaaDoor
open Go.RowKit

theorem ret_tail {a b c x y z : Int} (h1 : a = x) (h2 : b = y) (h3 : c = z) : Ending.returned (.tuple #[.int .u8 a, .int .u8 b, .int .i64 c]) = .returned (.tuple #[.int .u8 x, .int .u8 y, .int .i64 z]) := by rw [h1, h2, h3]

set_option maxRecDepth 100000 in
set_option maxHeartbeats 4000000 in
theorem tail_lib (a : Nat) (w : World) :
    Calls Tryd.prog 88 #[.int .u8 (a : Int)] w fun e w' => e = .returned (.tuple #[.int .u8 (lowB a : Int), .int .u8 (highB a : Int), .int .i64 (lenB a : Int)]) ∧ w = w' := by
  have hc : a < 128 ∨ (128 ≤ a ∧ a < 194) ∨ 244 < a ∨ (194 ≤ a ∧ a < 224) ∨ a = 224 ∨ (224 < a ∧ a < 237) ∨ a = 237 ∨ (237 < a ∧ a < 240) ∨ a = 240 ∨ (240 < a ∧ a < 244) ∨ a = 244 := by omega
  rcases hc with h | h | h | h | h | h | h | h | h | h | h
  · have HV : Hid (lowB a = 128 ∧ highB a = 191 ∧ lenB a = 1) := Lib.hid (by
      unfold lowB highB lenB
      repeat' (first | split | constructor)
      all_goals omega)
    have d1 : decide ((a : Int) < 128) = true := by simp; omega
    have d2 : decide ((a : Int) < 194) = true := by simp; omega
    have d3 : decide (244 < (a : Int)) = false := by simp; omega
    have d4 : decide ((a : Int) < 224) = true := by simp; omega
    have d5 : decide ((a : Int) < 240) = true := by simp; omega
    have e1 : ((a : Int) == 224) = false := by simp; omega
    have e2 : ((a : Int) == 237) = false := by simp; omega
    have e3 : ((a : Int) == 240) = false := by simp; omega
    have e4 : ((a : Int) == 244) = false := by simp; omega
    clear h
    go_enter Tryd.func88, Tryd.ntmps88
    go_wp2_with fail
    go_ret3
    obtain ⟨v1, v2, v3⟩ := HV.out
    exact ⟨ret_tail (by rw [v1]; rfl) (by rw [v2]; rfl) (by rw [v3]; rfl), rfl⟩
  · have HV : Hid (lowB a = 128 ∧ highB a = 191 ∧ lenB a = 0) := Lib.hid (by
      unfold lowB highB lenB
      repeat' (first | split | constructor)
      all_goals omega)
    have d1 : decide ((a : Int) < 128) = false := by simp; omega
    have d2 : decide ((a : Int) < 194) = true := by simp; omega
    have d3 : decide (244 < (a : Int)) = false := by simp; omega
    have d4 : decide ((a : Int) < 224) = true := by simp; omega
    have d5 : decide ((a : Int) < 240) = true := by simp; omega
    have e1 : ((a : Int) == 224) = false := by simp; omega
    have e2 : ((a : Int) == 237) = false := by simp; omega
    have e3 : ((a : Int) == 240) = false := by simp; omega
    have e4 : ((a : Int) == 244) = false := by simp; omega
    clear h
    go_enter Tryd.func88, Tryd.ntmps88
    go_wp2_with fail
    go_ret3
    obtain ⟨v1, v2, v3⟩ := HV.out
    exact ⟨ret_tail (by rw [v1]; rfl) (by rw [v2]; rfl) (by rw [v3]; rfl), rfl⟩
  · have HV : Hid (lowB a = 128 ∧ highB a = 191 ∧ lenB a = 0) := Lib.hid (by
      unfold lowB highB lenB
      repeat' (first | split | constructor)
      all_goals omega)
    have d1 : decide ((a : Int) < 128) = false := by simp; omega
    have d2 : decide ((a : Int) < 194) = false := by simp; omega
    have d3 : decide (244 < (a : Int)) = true := by simp; omega
    have d4 : decide ((a : Int) < 224) = false := by simp; omega
    have d5 : decide ((a : Int) < 240) = false := by simp; omega
    have e1 : ((a : Int) == 224) = false := by simp; omega
    have e2 : ((a : Int) == 237) = false := by simp; omega
    have e3 : ((a : Int) == 240) = false := by simp; omega
    have e4 : ((a : Int) == 244) = false := by simp; omega
    clear h
    go_enter Tryd.func88, Tryd.ntmps88
    go_wp2_with fail
    go_ret3
    obtain ⟨v1, v2, v3⟩ := HV.out
    exact ⟨ret_tail (by rw [v1]; rfl) (by rw [v2]; rfl) (by rw [v3]; rfl), rfl⟩
  · have HV : Hid (lowB a = 128 ∧ highB a = 191 ∧ lenB a = 2) := Lib.hid (by
      unfold lowB highB lenB
      repeat' (first | split | constructor)
      all_goals omega)
    have d1 : decide ((a : Int) < 128) = false := by simp; omega
    have d2 : decide ((a : Int) < 194) = false := by simp; omega
    have d3 : decide (244 < (a : Int)) = false := by simp; omega
    have d4 : decide ((a : Int) < 224) = true := by simp; omega
    have d5 : decide ((a : Int) < 240) = true := by simp; omega
    have e1 : ((a : Int) == 224) = false := by simp; omega
    have e2 : ((a : Int) == 237) = false := by simp; omega
    have e3 : ((a : Int) == 240) = false := by simp; omega
    have e4 : ((a : Int) == 244) = false := by simp; omega
    clear h
    go_enter Tryd.func88, Tryd.ntmps88
    go_wp2_with fail
    go_ret3
    obtain ⟨v1, v2, v3⟩ := HV.out
    exact ⟨ret_tail (by rw [v1]; rfl) (by rw [v2]; rfl) (by rw [v3]; rfl), rfl⟩
  · have HV : Hid (lowB a = 160 ∧ highB a = 191 ∧ lenB a = 3) := Lib.hid (by
      unfold lowB highB lenB
      repeat' (first | split | constructor)
      all_goals omega)
    have d1 : decide ((a : Int) < 128) = false := by simp; omega
    have d2 : decide ((a : Int) < 194) = false := by simp; omega
    have d3 : decide (244 < (a : Int)) = false := by simp; omega
    have d4 : decide ((a : Int) < 224) = false := by simp; omega
    have d5 : decide ((a : Int) < 240) = true := by simp; omega
    have e1 : ((a : Int) == 224) = true := by simp; omega
    have e2 : ((a : Int) == 237) = false := by simp; omega
    have e3 : ((a : Int) == 240) = false := by simp; omega
    have e4 : ((a : Int) == 244) = false := by simp; omega
    clear h
    go_enter Tryd.func88, Tryd.ntmps88
    go_wp2_with fail
    go_ret3
    obtain ⟨v1, v2, v3⟩ := HV.out
    exact ⟨ret_tail (by rw [v1]; rfl) (by rw [v2]; rfl) (by rw [v3]; rfl), rfl⟩
  · have HV : Hid (lowB a = 128 ∧ highB a = 191 ∧ lenB a = 3) := Lib.hid (by
      unfold lowB highB lenB
      repeat' (first | split | constructor)
      all_goals omega)
    have d1 : decide ((a : Int) < 128) = false := by simp; omega
    have d2 : decide ((a : Int) < 194) = false := by simp; omega
    have d3 : decide (244 < (a : Int)) = false := by simp; omega
    have d4 : decide ((a : Int) < 224) = false := by simp; omega
    have d5 : decide ((a : Int) < 240) = true := by simp; omega
    have e1 : ((a : Int) == 224) = false := by simp; omega
    have e2 : ((a : Int) == 237) = false := by simp; omega
    have e3 : ((a : Int) == 240) = false := by simp; omega
    have e4 : ((a : Int) == 244) = false := by simp; omega
    clear h
    go_enter Tryd.func88, Tryd.ntmps88
    go_wp2_with fail
    go_ret3
    obtain ⟨v1, v2, v3⟩ := HV.out
    exact ⟨ret_tail (by rw [v1]; rfl) (by rw [v2]; rfl) (by rw [v3]; rfl), rfl⟩
  · have HV : Hid (lowB a = 128 ∧ highB a = 159 ∧ lenB a = 3) := Lib.hid (by
      unfold lowB highB lenB
      repeat' (first | split | constructor)
      all_goals omega)
    have d1 : decide ((a : Int) < 128) = false := by simp; omega
    have d2 : decide ((a : Int) < 194) = false := by simp; omega
    have d3 : decide (244 < (a : Int)) = false := by simp; omega
    have d4 : decide ((a : Int) < 224) = false := by simp; omega
    have d5 : decide ((a : Int) < 240) = true := by simp; omega
    have e1 : ((a : Int) == 224) = false := by simp; omega
    have e2 : ((a : Int) == 237) = true := by simp; omega
    have e3 : ((a : Int) == 240) = false := by simp; omega
    have e4 : ((a : Int) == 244) = false := by simp; omega
    clear h
    go_enter Tryd.func88, Tryd.ntmps88
    go_wp2_with fail
    go_ret3
    obtain ⟨v1, v2, v3⟩ := HV.out
    exact ⟨ret_tail (by rw [v1]; rfl) (by rw [v2]; rfl) (by rw [v3]; rfl), rfl⟩
  · have HV : Hid (lowB a = 128 ∧ highB a = 191 ∧ lenB a = 3) := Lib.hid (by
      unfold lowB highB lenB
      repeat' (first | split | constructor)
      all_goals omega)
    have d1 : decide ((a : Int) < 128) = false := by simp; omega
    have d2 : decide ((a : Int) < 194) = false := by simp; omega
    have d3 : decide (244 < (a : Int)) = false := by simp; omega
    have d4 : decide ((a : Int) < 224) = false := by simp; omega
    have d5 : decide ((a : Int) < 240) = true := by simp; omega
    have e1 : ((a : Int) == 224) = false := by simp; omega
    have e2 : ((a : Int) == 237) = false := by simp; omega
    have e3 : ((a : Int) == 240) = false := by simp; omega
    have e4 : ((a : Int) == 244) = false := by simp; omega
    clear h
    go_enter Tryd.func88, Tryd.ntmps88
    go_wp2_with fail
    go_ret3
    obtain ⟨v1, v2, v3⟩ := HV.out
    exact ⟨ret_tail (by rw [v1]; rfl) (by rw [v2]; rfl) (by rw [v3]; rfl), rfl⟩
  · have HV : Hid (lowB a = 144 ∧ highB a = 191 ∧ lenB a = 4) := Lib.hid (by
      unfold lowB highB lenB
      repeat' (first | split | constructor)
      all_goals omega)
    have d1 : decide ((a : Int) < 128) = false := by simp; omega
    have d2 : decide ((a : Int) < 194) = false := by simp; omega
    have d3 : decide (244 < (a : Int)) = false := by simp; omega
    have d4 : decide ((a : Int) < 224) = false := by simp; omega
    have d5 : decide ((a : Int) < 240) = false := by simp; omega
    have e1 : ((a : Int) == 224) = false := by simp; omega
    have e2 : ((a : Int) == 237) = false := by simp; omega
    have e3 : ((a : Int) == 240) = true := by simp; omega
    have e4 : ((a : Int) == 244) = false := by simp; omega
    clear h
    go_enter Tryd.func88, Tryd.ntmps88
    go_wp2_with fail
    go_ret3
    obtain ⟨v1, v2, v3⟩ := HV.out
    exact ⟨ret_tail (by rw [v1]; rfl) (by rw [v2]; rfl) (by rw [v3]; rfl), rfl⟩
  · have HV : Hid (lowB a = 128 ∧ highB a = 191 ∧ lenB a = 4) := Lib.hid (by
      unfold lowB highB lenB
      repeat' (first | split | constructor)
      all_goals omega)
    have d1 : decide ((a : Int) < 128) = false := by simp; omega
    have d2 : decide ((a : Int) < 194) = false := by simp; omega
    have d3 : decide (244 < (a : Int)) = false := by simp; omega
    have d4 : decide ((a : Int) < 224) = false := by simp; omega
    have d5 : decide ((a : Int) < 240) = false := by simp; omega
    have e1 : ((a : Int) == 224) = false := by simp; omega
    have e2 : ((a : Int) == 237) = false := by simp; omega
    have e3 : ((a : Int) == 240) = false := by simp; omega
    have e4 : ((a : Int) == 244) = false := by simp; omega
    clear h
    go_enter Tryd.func88, Tryd.ntmps88
    go_wp2_with fail
    go_ret3
    obtain ⟨v1, v2, v3⟩ := HV.out
    exact ⟨ret_tail (by rw [v1]; rfl) (by rw [v2]; rfl) (by rw [v3]; rfl), rfl⟩
  · have HV : Hid (lowB a = 128 ∧ highB a = 143 ∧ lenB a = 4) := Lib.hid (by
      unfold lowB highB lenB
      repeat' (first | split | constructor)
      all_goals omega)
    have d1 : decide ((a : Int) < 128) = false := by simp; omega
    have d2 : decide ((a : Int) < 194) = false := by simp; omega
    have d3 : decide (244 < (a : Int)) = false := by simp; omega
    have d4 : decide ((a : Int) < 224) = false := by simp; omega
    have d5 : decide ((a : Int) < 240) = false := by simp; omega
    have e1 : ((a : Int) == 224) = false := by simp; omega
    have e2 : ((a : Int) == 237) = false := by simp; omega
    have e3 : ((a : Int) == 240) = false := by simp; omega
    have e4 : ((a : Int) == 244) = true := by simp; omega
    clear h
    go_enter Tryd.func88, Tryd.ntmps88
    go_wp2_with fail
    go_ret3
    obtain ⟨v1, v2, v3⟩ := HV.out
    exact ⟨ret_tail (by rw [v1]; rfl) (by rw [v2]; rfl) (by rw [v3]; rfl), rfl⟩
end Go.Proofs.YtknnjnginmkblaaDoor
