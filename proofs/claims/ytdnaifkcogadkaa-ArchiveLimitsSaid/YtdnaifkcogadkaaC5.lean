/- Walks: comparing names. -/
import Derived.Sort.Walk0
import Derived.Sort.Grow
import Derived.Test.YtdnaifkcogadkaaC4
namespace Go.Proofs.Ytdnaifkcogadkaa
open Go.RowKit

set_option maxHeartbeats 1000000 in
theorem isNaN_any (x : ByteArray) (w : World) : Calls Try.prog 53 #[.string x] w fun e w' => e = .returned (.bool false) ∧ w = w' := by
  go_enter Try.func53, Try.ntmps53
  go_wp2_with fail
  go_ret
  exact ⟨rfl, rfl⟩
/-- How two names are compared. -/
def cmpS (x y : ByteArray) : Int := if x.toList < y.toList then -1 else if x.toList = y.toList then 0 else 1
set_option maxHeartbeats 1000000 in
theorem compare_any (x y : ByteArray) (w : World) : Calls Try.prog 38 #[.string x, .string y] w fun e w' => e = .returned (.int .i64 (cmpS x y)) ∧ w = w' := by
  by_cases h1 : x.toList < y.toList
  · have HV : Hid (cmpS x y = -1) := Lib.hid (by unfold cmpS; rw [if_pos h1])
    have hb : Op.bytesLess x.toList y.toList = true := by rw [bytesLess_eq]; simpa using h1
    clear h1
    go_enter Try.func38, Try.ntmps38
    go_wp2_with fail
    refine (isNaN_any x w).mono ?_
    rintro e w1 ⟨rfl, rfl⟩
    go_wp2_with fail
    refine (isNaN_any y w).mono ?_
    rintro e w1 ⟨rfl, rfl⟩
    go_wp2_with fail
    go_ret
    exact ⟨ret_int HV.out.symm, rfl⟩
  · have hb : Op.bytesLess x.toList y.toList = false := by rw [bytesLess_eq]; simpa using h1
    by_cases h2 : x.toList = y.toList
    · have HV : Hid (cmpS x y = 0) := Lib.hid (by unfold cmpS; rw [if_neg h1, if_pos h2])
      have he : (x.toList == y.toList) = true := by simpa using h2
      clear h1 h2
      go_enter Try.func38, Try.ntmps38
      go_wp2_with fail
      refine (isNaN_any x w).mono ?_
      rintro e w1 ⟨rfl, rfl⟩
      go_wp2_with fail
      refine (isNaN_any y w).mono ?_
      rintro e w1 ⟨rfl, rfl⟩
      go_wp2_with fail
      go_ret
      exact ⟨ret_int HV.out.symm, rfl⟩
    · have HV : Hid (cmpS x y = 1) := Lib.hid (by unfold cmpS; rw [if_neg h1, if_neg h2])
      have he : (x.toList == y.toList) = false := by simpa using h2
      clear h1 h2
      go_enter Try.func38, Try.ntmps38
      go_wp2_with fail
      refine (isNaN_any x w).mono ?_
      rintro e w1 ⟨rfl, rfl⟩
      go_wp2_with fail
      refine (isNaN_any y w).mono ?_
      rintro e w1 ⟨rfl, rfl⟩
      go_wp2_with fail
      go_ret
      exact ⟨ret_int HV.out.symm, rfl⟩
set_option maxHeartbeats 1000000 in
theorem closure_any (x y : Prt) (w : World) : Calls Try.prog 37 #[.agg #[.string x.1, .string x.2], .agg #[.string y.1, .string y.2]] w fun e w' => e = .returned (.int .i64 (cmpS x.1 y.1)) ∧
    w' = (w.alloc (.cells #[.string x.1, .string x.2] 38)).alloc (.cells #[.string y.1, .string y.2] 38) := by
  obtain ⟨r, hr⟩ : ∃ r, r = cmpS x.1 y.1 := ⟨_, rfl⟩
  have hcon := fun W' => compare_any x.1 y.1 W'
  rw [← hr] at hcon ⊢
  have HC := Lib.hid hcon
  clear hcon hr
  obtain ⟨x0, x1⟩ := x
  obtain ⟨y0, y1⟩ := y
  simp only at HC ⊢
  go_enter Try.func37, Try.ntmps37
  go_wp2_with fail
  refine (HC.out _).mono ?_
  rintro e w1 ⟨rfl, rfl⟩
  go_wp2_with fail
  go_ret
  exact ⟨rfl, rfl⟩

def ltP (x y : Prt) : Bool := decide (x.1.toList < y.1.toList)
theorem cmpS_neg (x y : ByteArray) : (cmpS x y < 0) ↔ x.toList < y.toList := by
  unfold cmpS
  by_cases h1 : x.toList < y.toList
  · rw [if_pos h1]; simp [h1]
  · rw [if_neg h1]
    by_cases h2 : x.toList = y.toList
    · rw [if_pos h2]; simp [h1]
    · rw [if_neg h2]; simp [h1]
/-- No later part is less than an earlier one. -/
def SortedP (l : List Prt) : Prop := l.Pairwise fun x y => ¬ y.1.toList < x.1.toList
end Go.Proofs.Ytdnaifkcogadkaa
