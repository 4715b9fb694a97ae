/- Walks: Best, Align. -/
import Derived.Test.YtbpegoekjlehcaaW8
namespace Go.Proofs.Ytbpegoekjlehcaa
open Go.RowKit

theorem bothL_zero {a b : List Tok} (h : bothL a b = 0) : WOk a ∧ WOk b ∧ a.length ≤ 2048 ∧ b.length ≤ 2048 := by
  unfold bothL at h
  have h1 : checkL a = 0 := by
    by_cases h1 : checkL a = 0
    · exact h1
    · rw [if_neg h1] at h; exact h
  rw [if_pos h1] at h
  unfold checkL at h1 h
  by_cases l1 : 2048 < a.length
  · rw [if_pos l1] at h1; omega
  · rw [if_neg l1] at h1
    by_cases l2 : 2048 < b.length
    · rw [if_pos l2] at h; omega
    · rw [if_neg l2] at h
      exact ⟨(chk_zero a).1 h1, (chk_zero b).1 h, by omega, by omega⟩
theorem gapL_zero {g : Int} (h : gapL g = 0) : 0 ≤ g ∧ g ≤ 1000 := by
  unfold gapL at h
  split at h <;> omega

def bestL (a b : List Tok) (g : Int) : Int × Int := if bothL a b ≠ 0 then (0, bothL a b) else if gapL g ≠ 0 then (0, gapL g) else (oT g a b 0 0 0, 0)

theorem ret_two {a b c d : Int} (h : a = c) (h' : b = d) : Ending.returned (.tuple #[.int .i64 a, .int .i64 b]) = .returned (.tuple #[.int .i64 c, .int .i64 d]) := by rw [h, h']

theorem field68 (W : World) (x0 x1 x2 x3 : Value) : (Instr.field 68 (.agg #[x0, x1, x2, x3]) 0).run Try.prog W = .ok x0 W := by kernel_rfl
attribute [local go_sem] field68

set_option maxHeartbeats 1000000 in
theorem best_any (va vb : Value) (a b : List Tok) (g : Int) (w : World) (ha : Toks w w.heap.size va a) (hb : Toks w w.heap.size vb b) :
    Calls Try.prog 14 #[va, vb, .int .i64 g] w fun e w' => e = .returned (.tuple #[.int .i64 (bestL a b g).1, .int .i64 (bestL a b g).2]) ∧ Below w.heap.size w w' := by
  have H1 := Lib.hid (both_any va vb a b w ha hb)
  by_cases h0 : bothL a b = 0
  · have hb0 : (bothL a b != 0) = false := by simp [h0]
    by_cases h1 : gapL g = 0
    · have hg0 : (gapL g != 0) = false := by simp [h1]
      have HR : Hid (bestL a b g = (oT g a b 0 0 0, 0)) := Lib.hid (by unfold bestL; rw [if_neg (by simp [h0]), if_neg (by simp [h1])])
      have HF := Lib.hid (And.intro (bothL_zero h0) (gapL_zero h1))
      clear h0 h1
      go_enter Try.func14, Try.ntmps14
      go_wp2_with fail
      refine H1.out.mono ?_
      rintro e w1 ⟨rfl, hb1⟩
      go_wp2_with fail
      refine (gap_any g w1).mono ?_
      rintro e w2 ⟨rfl, rfl⟩
      go_wp2_with fail
      obtain ⟨⟨f1, f2, f3, f4⟩, f5, f6⟩ := HF.out
      refine (solve_any va vb a b g w1 (ha.over hb1) (hb.over hb1) f1 f2 f3 f4 f5 f6).mono ?_
      rintro e w3 ⟨v, rfl, hT, hb3⟩
      obtain ⟨C, rc, rfl, _⟩ := hT
      clear f1 f2 f3 f4 f5 f6 hb0 hg0
      go_wp2_with fail
      go_ret2
      refine ⟨?_, hb1.trans (hb3.mono hb1.size)⟩
      rw [HR.out]; rfl
    · have hg0 : (gapL g != 0) = true := by simp [h1]
      have HR : Hid (bestL a b g = (0, gapL g)) := Lib.hid (by unfold bestL; rw [if_neg (by simp [h0]), if_pos (by simp [h1])])
      clear h0 h1
      go_enter Try.func14, Try.ntmps14
      go_wp2_with fail
      refine H1.out.mono ?_
      rintro e w1 ⟨rfl, hb1⟩
      go_wp2_with fail
      refine (gap_any g w1).mono ?_
      rintro e w2 ⟨rfl, rfl⟩
      go_wp2_with fail
      go_ret2
      refine ⟨?_, hb1⟩
      rw [HR.out]; rfl
  · have hb0 : (bothL a b != 0) = true := by simp [h0]
    have HR : Hid (bestL a b g = (0, bothL a b)) := Lib.hid (by unfold bestL; rw [if_pos (by simp [h0])])
    clear h0
    go_enter Try.func14, Try.ntmps14
    go_wp2_with fail
    refine H1.out.mono ?_
    rintro e w1 ⟨rfl, hb1⟩
    go_wp2_with fail
    go_ret2
    refine ⟨?_, hb1⟩
    rw [HR.out]; rfl

end Go.Proofs.Ytbpegoekjlehcaa
