/- Walks: the elements of one code point: a letter with its mark. -/
import Derived.Test.YtknnjnginmkblaaDoorW7
namespace Go.Proofs.YtknnjnginmkblaaDoor
open Go.RowKit

set_option maxRecDepth 100000 in
set_option maxHeartbeats 4000000 in
theorem point_yy (c : Nat) (o : Opt) (w : World) (hc : c ≤ 1114111) (h1 : c = 255) :
    Calls Tryd.prog 57 #[.int .i64 (c : Int), optV o] w (ElsE w (pointE c o)) := by
  have h3 : letB c = false := by rw [h1]; rfl
  have hv : pointE c o = [letterE 121 o.upper, markE 776] := by rw [h1]; rfl
  have HL : Hid (letB c = false) := Lib.hid h3
  clear h3
  obtain ⟨st, num, ign, up⟩ := o
  show Calls Tryd.prog 57 #[.int .i64 (c : Int), .agg #[.int .i64 st, .bool num, .bool ign, .bool up]] w (ElsE w (pointE c ⟨st, num, ign, up⟩))
  have T0 : decide ((c : Int) < 32) = false := by simp; omega
  have T1 : decide (127 ≤ (c : Int)) = true := by simp; omega
  have T2 : decide ((c : Int) ≤ 159) = false := by simp; omega
  have T3 : ((c : Int) == 173) = false := by simp; omega
  have T4 : decide (48 ≤ (c : Int)) = true := by simp; omega
  have T5 : decide ((c : Int) ≤ 57) = false := by simp; omega
  have T6 : decide ((c : Int) < 127) = false := by simp; omega
  have T7 : decide (768 ≤ (c : Int)) = false := by simp; omega
  have T8 : decide ((c : Int) ≤ 879) = true := by simp; omega
  have T9 : ((c : Int) == 198) = false := by simp; omega
  have T10 : ((c : Int) == 230) = false := by simp; omega
  have T11 : ((c : Int) == 223) = false := by simp; omega
  have T12 : ((c : Int) == 255) = true := by simp; omega
  have T13 : decide (192 ≤ (c : Int)) = true := by simp; omega
  have T14 : decide ((c : Int) ≤ 253) = false := by simp; omega
  have T15 : ((c : Int) != 222) = true := by simp; omega
  obtain ⟨x, hx⟩ : ∃ x, x = letterE 121 up := ⟨_, rfl⟩
  obtain ⟨y, hy⟩ : ∃ x, x = markE 776 := ⟨_, rfl⟩
  have HV : Hid (pointE c ⟨st, num, ign, up⟩ = [x, y]) := Lib.hid (by rw [hv, hx, hy])
  have LX := Lib.hid (letter_at 121 121 rfl st num ign up rfl x hx)
  have LY : Hid (∀ w : World, Calls Tryd.prog 77 #[.int .i64 776] w fun e w' => e = .returned (.agg #[.int .i64 (y.p : Int), .int .i64 (y.s : Int), .int .i64 (y.t : Int)]) ∧ Below w.heap.size w w') := Lib.hid (by rw [hy]; exact fun w => mark_lib 776 w (by omega) (by omega))
  clear hv hx hy h1 hc
  go_enter Tryd.func57, Tryd.ntmps57
  go_wp2_with fail
  refine (isLetter_lib c _).mono ?_
  rw [HL.out]
  rintro e w1 ⟨rfl, rfl⟩
  go_wp2_with fail
  refine (LX.out _).mono ?_
  rintro e wx1 ⟨rfl, bx1⟩
  go_wp2_with fail
  refine (LY.out _).mono ?_
  rintro e wx2 ⟨rfl, bx2⟩
  have bb : Below w.heap.size w wx2 := ((Below.refl w.heap.size w).alloc (Nat.le_refl _) _).trans ((bx1.mono (by simp)).trans (bx2.mono (Nat.le_trans (by simp) bx1.size)))
  clear bx1 bx2 LX LY
  go_wp2_with fail
  go_ret
  exact ElsE.two HV.out bb
end Go.Proofs.YtknnjnginmkblaaDoor
