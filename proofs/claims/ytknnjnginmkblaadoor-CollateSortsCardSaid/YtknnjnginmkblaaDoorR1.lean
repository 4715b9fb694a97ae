/- Walks: the reference's elements of one code point. -/
import Derived.Test.YtknnjnginmkblaaDoorW15
import Derived.Test.YtknnjnginmkblaaDoorW11
import Derived.Test.YtknnjnginmkblaaDoorW17
namespace Go.Proofs.YtknnjnginmkblaaDoor
open Go.RowKit

theorem rletter_at (n : Nat) (k : Int) (hk : (n : Int) = k) (st : Int) (num ign up : Bool) (h : letB n = true) (x : El) (hx : x = letterE n up) (w : World) :
    Calls Tryd.prog 62 #[.int .i64 k, .agg #[.int .i64 st, .bool num, .bool ign, .bool up]] w fun e w' => e = .returned (.agg #[.int .i64 (x.p : Int), .int .i64 (x.s : Int), .int .i64 (x.t : Int)]) ∧ Below w.heap.size w w' := by
  rw [← hk, hx]
  exact rletter_lib n ⟨st, num, ign, up⟩ w h
theorem Box.start31 (W : World) (st : Int) (num ign up : Bool) : Box W st num ign up (W.alloc (.cells #[.int .i64 st, .bool num, .bool ign, .bool up] 31)) := by
  refine ⟨?_, ?_, ?_, ?_⟩ <;> go_simp

set_option maxRecDepth 100000 in
set_option maxHeartbeats 4000000 in
theorem rp_nil (c : Nat) (o : Opt) (w : World) (h : c < 32 ∨ 127 ≤ c ∧ c ≤ 159 ∨ c = 173) :
    Calls Tryd.prog 47 #[.int .i64 (c : Int), optV o] w (ElsE w (pointE c o)) := by
  have HV : Hid (pointE c o = []) := Lib.hid (by unfold pointE; rw [if_pos h])
  obtain ⟨st, num, ign, up⟩ := o
  show Calls Tryd.prog 47 #[.int .i64 (c : Int), .agg #[.int .i64 st, .bool num, .bool ign, .bool up]] w (ElsE w (pointE c ⟨st, num, ign, up⟩))
  rcases h with h | ⟨h, h'⟩ | h
  all_goals
    go_enter Tryd.func47, Tryd.ntmps47
    go_wp2_with fail
    go_ret
    exact ElsE.nil HV.out ((Below.refl _ _).alloc (Nat.le_refl _) _)

set_option maxRecDepth 100000 in
set_option maxHeartbeats 4000000 in
theorem rp_digit (c : Nat) (o : Opt) (w : World) (hc : c ≤ 1114111) (h1 : 48 ≤ c) (h2 : c ≤ 57) :
    Calls Tryd.prog 47 #[.int .i64 (c : Int), optV o] w (ElsE w (pointE c o)) := by
  have hv : pointE c o = [baseE (512 + c - 48)] := by unfold pointE; rw [if_neg (by omega), if_pos (by simp [digB]; omega)]
  have HD : Hid (digB c = true) := Lib.hid (by simp [digB]; omega)
  obtain ⟨st, num, ign, up⟩ := o
  show Calls Tryd.prog 47 #[.int .i64 (c : Int), .agg #[.int .i64 st, .bool num, .bool ign, .bool up]] w (ElsE w (pointE c ⟨st, num, ign, up⟩))
  have T0 : decide ((c : Int) < 32) = false := by simp; omega
  have T1 : decide (127 ≤ (c : Int)) = false := by simp; omega
  have T2 : decide ((c : Int) ≤ 159) = true := by simp; omega
  have T3 : ((c : Int) == 173) = false := by simp; omega
  have T4 : decide (48 ≤ (c : Int)) = true := by simp; omega
  have T5 : decide ((c : Int) ≤ 57) = true := by simp; omega
  have T6 : decide ((c : Int) < 127) = true := by simp; omega
  have T7 : decide (768 ≤ (c : Int)) = false := by simp; omega
  have T8 : decide ((c : Int) ≤ 879) = true := by simp; omega
  have T9 : ((c : Int) == 198) = false := by simp; omega
  have T10 : ((c : Int) == 230) = false := by simp; omega
  have T11 : ((c : Int) == 223) = false := by simp; omega
  have T12 : ((c : Int) == 255) = false := by simp; omega
  have T13 : decide (192 ≤ (c : Int)) = false := by simp; omega
  have T14 : decide ((c : Int) ≤ 253) = true := by simp; omega
  have T15 : ((c : Int) != 222) = true := by simp; omega
  have e1 : IntKind.i64.wrap (512 + (c : Int)) = (512 + (c : Int)) := by rw [IntWalk.i64_in _ (by omega)]
  have e2 : IntKind.i64.wrap (512 + (c : Int) - 48) = ((512 + c - 48 : Nat) : Int) := by rw [IntWalk.i64_in _ (by omega)]; omega
  obtain ⟨x, hx⟩ : ∃ x, x = 512 + c - 48 := ⟨_, rfl⟩
  rw [← hx] at e2 hv
  have HV := Lib.hid hv
  clear hv hx h1 h2 hc
  go_enter Tryd.func47, Tryd.ntmps47
  go_wp2_with fail
  refine (isDigit_lib c _).mono ?_
  rw [HD.out]
  rintro e w1 ⟨rfl, rfl⟩
  go_wp2_with fail
  refine (rbase_lib x _).mono ?_
  rw [show elV (baseE x) = .agg #[.int .i64 (x : Int), .int .i64 32, .int .i64 2] from rfl]
  rintro e w1 ⟨rfl, b1⟩
  have bb : Below w.heap.size w w1 := ((Below.refl w.heap.size w).alloc (Nat.le_refl _) _).trans (b1.mono (by simp))
  clear b1
  go_wp2_with fail
  go_ret
  exact ElsE.one HV.out bb

set_option maxRecDepth 100000 in
set_option maxHeartbeats 4000000 in
theorem rp_letter_up (c : Nat) (o : Opt) (w : World) (hc : c ≤ 1114111) (h1 : 65 ≤ c) (h2 : c ≤ 90) :
    Calls Tryd.prog 47 #[.int .i64 (c : Int), optV o] w (ElsE w (pointE c o)) := by
  have h3 : letB c = true := by simp [letB]; omega
  have hv : pointE c o = [letterE c o.upper] := by unfold pointE; rw [if_neg (by omega), if_neg (by simp [digB]; omega), if_pos h3]
  have HD : Hid (digB c = false) := Lib.hid (by simp [digB]; omega)
  have HL : Hid (letB c = true) := Lib.hid h3
  obtain ⟨st, num, ign, up⟩ := o
  show Calls Tryd.prog 47 #[.int .i64 (c : Int), .agg #[.int .i64 st, .bool num, .bool ign, .bool up]] w (ElsE w (pointE c ⟨st, num, ign, up⟩))
  have T0 : decide ((c : Int) < 32) = false := by simp; omega
  have T1 : decide (127 ≤ (c : Int)) = false := by simp; omega
  have T2 : decide ((c : Int) ≤ 159) = true := by simp; omega
  have T3 : ((c : Int) == 173) = false := by simp; omega
  have T4 : decide (48 ≤ (c : Int)) = true := by simp; omega
  have T5 : decide ((c : Int) ≤ 57) = false := by simp; omega
  have T6 : decide ((c : Int) < 127) = true := by simp; omega
  have T7 : decide (768 ≤ (c : Int)) = false := by simp; omega
  have T8 : decide ((c : Int) ≤ 879) = true := by simp; omega
  have T9 : ((c : Int) == 198) = false := by simp; omega
  have T10 : ((c : Int) == 230) = false := by simp; omega
  have T11 : ((c : Int) == 223) = false := by simp; omega
  have T12 : ((c : Int) == 255) = false := by simp; omega
  have T13 : decide (192 ≤ (c : Int)) = false := by simp; omega
  have T14 : decide ((c : Int) ≤ 253) = true := by simp; omega
  have T15 : ((c : Int) != 222) = true := by simp; omega
  obtain ⟨x, hx⟩ : ∃ x, x = letterE c up := ⟨_, rfl⟩
  have HV : Hid (pointE c ⟨st, num, ign, up⟩ = [x]) := Lib.hid (by rw [hv, hx])
  have LX := Lib.hid (rletter_at c c rfl st num ign up h3 x hx)
  clear hv hx h1 h2 h3 hc
  go_enter Tryd.func47, Tryd.ntmps47
  go_wp2_with fail
  refine (isDigit_lib c _).mono ?_
  rw [HD.out]
  rintro e w1 ⟨rfl, rfl⟩
  go_wp2_with fail
  refine (risLetter_lib c _).mono ?_
  rw [HL.out]
  rintro e w1 ⟨rfl, rfl⟩
  go_wp2_with fail
  refine (LX.out _).mono ?_
  rintro e w1 ⟨rfl, b1⟩
  have bb : Below w.heap.size w w1 := ((Below.refl w.heap.size w).alloc (Nat.le_refl _) _).trans (b1.mono (by simp))
  clear b1
  go_wp2_with fail
  go_ret
  exact ElsE.one HV.out bb

set_option maxRecDepth 100000 in
set_option maxHeartbeats 4000000 in
theorem rp_letter_low (c : Nat) (o : Opt) (w : World) (hc : c ≤ 1114111) (h1 : 97 ≤ c) (h2 : c ≤ 122) :
    Calls Tryd.prog 47 #[.int .i64 (c : Int), optV o] w (ElsE w (pointE c o)) := by
  have h3 : letB c = true := by simp [letB]; omega
  have hv : pointE c o = [letterE c o.upper] := by unfold pointE; rw [if_neg (by omega), if_neg (by simp [digB]; omega), if_pos h3]
  have HD : Hid (digB c = false) := Lib.hid (by simp [digB]; omega)
  have HL : Hid (letB c = true) := Lib.hid h3
  obtain ⟨st, num, ign, up⟩ := o
  show Calls Tryd.prog 47 #[.int .i64 (c : Int), .agg #[.int .i64 st, .bool num, .bool ign, .bool up]] w (ElsE w (pointE c ⟨st, num, ign, up⟩))
  have T0 : decide ((c : Int) < 32) = false := by simp; omega
  have T1 : decide (127 ≤ (c : Int)) = false := by simp; omega
  have T2 : decide ((c : Int) ≤ 159) = true := by simp; omega
  have T3 : ((c : Int) == 173) = false := by simp; omega
  have T4 : decide (48 ≤ (c : Int)) = true := by simp; omega
  have T5 : decide ((c : Int) ≤ 57) = false := by simp; omega
  have T6 : decide ((c : Int) < 127) = true := by simp; omega
  have T7 : decide (768 ≤ (c : Int)) = false := by simp; omega
  have T8 : decide ((c : Int) ≤ 879) = true := by simp; omega
  have T9 : ((c : Int) == 198) = false := by simp; omega
  have T10 : ((c : Int) == 230) = false := by simp; omega
  have T11 : ((c : Int) == 223) = false := by simp; omega
  have T12 : ((c : Int) == 255) = false := by simp; omega
  have T13 : decide (192 ≤ (c : Int)) = false := by simp; omega
  have T14 : decide ((c : Int) ≤ 253) = true := by simp; omega
  have T15 : ((c : Int) != 222) = true := by simp; omega
  obtain ⟨x, hx⟩ : ∃ x, x = letterE c up := ⟨_, rfl⟩
  have HV : Hid (pointE c ⟨st, num, ign, up⟩ = [x]) := Lib.hid (by rw [hv, hx])
  have LX := Lib.hid (rletter_at c c rfl st num ign up h3 x hx)
  clear hv hx h1 h2 h3 hc
  go_enter Tryd.func47, Tryd.ntmps47
  go_wp2_with fail
  refine (isDigit_lib c _).mono ?_
  rw [HD.out]
  rintro e w1 ⟨rfl, rfl⟩
  go_wp2_with fail
  refine (risLetter_lib c _).mono ?_
  rw [HL.out]
  rintro e w1 ⟨rfl, rfl⟩
  go_wp2_with fail
  refine (LX.out _).mono ?_
  rintro e w1 ⟨rfl, b1⟩
  have bb : Below w.heap.size w w1 := ((Below.refl w.heap.size w).alloc (Nat.le_refl _) _).trans (b1.mono (by simp))
  clear b1
  go_wp2_with fail
  go_ret
  exact ElsE.one HV.out bb

set_option maxRecDepth 100000 in
set_option maxHeartbeats 4000000 in
theorem rp_other_true (c : Nat) (o : Opt) (w : World) (hc : c ≤ 1114111) (h1 : 32 ≤ c) (h2 : c ≤ 126) (h3 : letB c = false) (h5 : digB c = false) (h4 : o.ign = true) :
    Calls Tryd.prog 47 #[.int .i64 (c : Int), optV o] w (ElsE w (pointE c o)) := by
  have hv : pointE c o = [] := by
    unfold pointE
    rw [if_neg (by omega), if_neg (by rw [h5]; simp), if_neg (by rw [h3]; simp), if_pos (by omega), h4]
    rfl
  have HD : Hid (digB c = false) := Lib.hid h5
  have HL : Hid (letB c = false) := Lib.hid h3
  clear h3 h5
  obtain ⟨st, num, ign, up⟩ := o
  show Calls Tryd.prog 47 #[.int .i64 (c : Int), .agg #[.int .i64 st, .bool num, .bool ign, .bool up]] w (ElsE w (pointE c ⟨st, num, ign, up⟩))
  have hg : ign = true := h4
  subst hg
  clear h4
  have T0 : decide ((c : Int) < 32) = false := by simp; omega
  have T1 : decide (127 ≤ (c : Int)) = false := by simp; omega
  have T2 : decide ((c : Int) ≤ 159) = true := by simp; omega
  have T3 : ((c : Int) == 173) = false := by simp; omega
  have T6 : decide ((c : Int) < 127) = true := by simp; omega
  have T7 : decide (768 ≤ (c : Int)) = false := by simp; omega
  have T8 : decide ((c : Int) ≤ 879) = true := by simp; omega
  have T9 : ((c : Int) == 198) = false := by simp; omega
  have T10 : ((c : Int) == 230) = false := by simp; omega
  have T11 : ((c : Int) == 223) = false := by simp; omega
  have T12 : ((c : Int) == 255) = false := by simp; omega
  have T13 : decide (192 ≤ (c : Int)) = false := by simp; omega
  have T14 : decide ((c : Int) ≤ 253) = true := by simp; omega
  have T15 : ((c : Int) != 222) = true := by simp; omega
  have HV := Lib.hid hv
  clear hv h1 h2 hc
  go_enter Tryd.func47, Tryd.ntmps47
  go_wp2_with fail
  refine (isDigit_lib c _).mono ?_
  rw [HD.out]
  rintro e w1 ⟨rfl, rfl⟩
  go_wp2_with fail
  refine (risLetter_lib c _).mono ?_
  rw [HL.out]
  rintro e w1 ⟨rfl, rfl⟩
  go_wp2_with fail
  go_ret
  exact ElsE.nil HV.out ((Below.refl _ _).alloc (Nat.le_refl _) _)

set_option maxRecDepth 100000 in
set_option maxHeartbeats 4000000 in
theorem rp_other_false (c : Nat) (o : Opt) (w : World) (hc : c ≤ 1114111) (h1 : 32 ≤ c) (h2 : c ≤ 126) (h3 : letB c = false) (h5 : digB c = false) (h4 : o.ign = false) :
    Calls Tryd.prog 47 #[.int .i64 (c : Int), optV o] w (ElsE w (pointE c o)) := by
  have hv : pointE c o = [baseE (256 + c)] := by
    unfold pointE
    rw [if_neg (by omega), if_neg (by rw [h5]; simp), if_neg (by rw [h3]; simp), if_pos (by omega), h4]
    rfl
  have HD : Hid (digB c = false) := Lib.hid h5
  have HL : Hid (letB c = false) := Lib.hid h3
  clear h3 h5
  obtain ⟨st, num, ign, up⟩ := o
  show Calls Tryd.prog 47 #[.int .i64 (c : Int), .agg #[.int .i64 st, .bool num, .bool ign, .bool up]] w (ElsE w (pointE c ⟨st, num, ign, up⟩))
  have hg : ign = false := h4
  subst hg
  clear h4
  have T0 : decide ((c : Int) < 32) = false := by simp; omega
  have T1 : decide (127 ≤ (c : Int)) = false := by simp; omega
  have T2 : decide ((c : Int) ≤ 159) = true := by simp; omega
  have T3 : ((c : Int) == 173) = false := by simp; omega
  have T6 : decide ((c : Int) < 127) = true := by simp; omega
  have T7 : decide (768 ≤ (c : Int)) = false := by simp; omega
  have T8 : decide ((c : Int) ≤ 879) = true := by simp; omega
  have T9 : ((c : Int) == 198) = false := by simp; omega
  have T10 : ((c : Int) == 230) = false := by simp; omega
  have T11 : ((c : Int) == 223) = false := by simp; omega
  have T12 : ((c : Int) == 255) = false := by simp; omega
  have T13 : decide (192 ≤ (c : Int)) = false := by simp; omega
  have T14 : decide ((c : Int) ≤ 253) = true := by simp; omega
  have T15 : ((c : Int) != 222) = true := by simp; omega
  have e1 : IntKind.i64.wrap (256 + (c : Int)) = ((256 + c : Nat) : Int) := by rw [IntWalk.i64_in _ (by omega)]; omega
  obtain ⟨x, hx⟩ : ∃ x, x = 256 + c := ⟨_, rfl⟩
  rw [← hx] at e1 hv
  have HV := Lib.hid hv
  clear hv hx h1 h2 hc
  go_enter Tryd.func47, Tryd.ntmps47
  go_wp2_with fail
  refine (isDigit_lib c _).mono ?_
  rw [HD.out]
  rintro e w1 ⟨rfl, rfl⟩
  go_wp2_with fail
  refine (risLetter_lib c _).mono ?_
  rw [HL.out]
  rintro e w1 ⟨rfl, rfl⟩
  go_wp2_with fail
  refine (rbase_lib x _).mono ?_
  rw [show elV (baseE x) = .agg #[.int .i64 (x : Int), .int .i64 32, .int .i64 2] from rfl]
  rintro e w1 ⟨rfl, b1⟩
  have bb : Below w.heap.size w w1 := ((Below.refl w.heap.size w).alloc (Nat.le_refl _) _).trans (b1.mono (by simp))
  clear b1
  go_wp2_with fail
  go_ret
  exact ElsE.one HV.out bb

set_option maxRecDepth 100000 in
set_option maxHeartbeats 4000000 in
theorem rp_mark (c : Nat) (o : Opt) (w : World) (hc : c ≤ 1114111) (h1 : 768 ≤ c) (h2 : c ≤ 879) :
    Calls Tryd.prog 47 #[.int .i64 (c : Int), optV o] w (ElsE w (pointE c o)) := by
  have h3 : letB c = false := by simp [letB]; omega
  have hv : pointE c o = [markE c] := by unfold pointE; rw [if_neg (by omega), if_neg (by simp [digB]; omega), if_neg (by rw [h3]; simp), if_neg (by omega), if_pos ⟨h1, h2⟩]
  have HD : Hid (digB c = false) := Lib.hid (by simp [digB]; omega)
  have HL : Hid (letB c = false) := Lib.hid (by simp [letB]; omega)
  obtain ⟨st, num, ign, up⟩ := o
  show Calls Tryd.prog 47 #[.int .i64 (c : Int), .agg #[.int .i64 st, .bool num, .bool ign, .bool up]] w (ElsE w (pointE c ⟨st, num, ign, up⟩))
  have T0 : decide ((c : Int) < 32) = false := by simp; omega
  have T1 : decide (127 ≤ (c : Int)) = true := by simp; omega
  have T2 : decide ((c : Int) ≤ 159) = false := by simp; omega
  have T3 : ((c : Int) == 173) = false := by simp; omega
  have T4 : decide (48 ≤ (c : Int)) = true := by simp; omega
  have T5 : decide ((c : Int) ≤ 57) = false := by simp; omega
  have T6 : decide ((c : Int) < 127) = false := by simp; omega
  have T7 : decide (768 ≤ (c : Int)) = true := by simp; omega
  have T8 : decide ((c : Int) ≤ 879) = true := by simp; omega
  have T9 : ((c : Int) == 198) = false := by simp; omega
  have T10 : ((c : Int) == 230) = false := by simp; omega
  have T11 : ((c : Int) == 223) = false := by simp; omega
  have T12 : ((c : Int) == 255) = false := by simp; omega
  have T13 : decide (192 ≤ (c : Int)) = true := by simp; omega
  have T14 : decide ((c : Int) ≤ 253) = false := by simp; omega
  have T15 : ((c : Int) != 222) = true := by simp; omega
  obtain ⟨x, hx⟩ : ∃ x, x = markE c := ⟨_, rfl⟩
  have HV : Hid (pointE c ⟨st, num, ign, up⟩ = [x]) := Lib.hid (by rw [hv, hx])
  have LY : Hid (∀ w : World, Calls Tryd.prog 63 #[.int .i64 (c : Int)] w fun e w' => e = .returned (.agg #[.int .i64 (x.p : Int), .int .i64 (x.s : Int), .int .i64 (x.t : Int)]) ∧ Below w.heap.size w w') := Lib.hid (by rw [hx]; exact fun w => rmark_lib c w h1 h2)
  clear hv hx h1 h2 h3 hc
  go_enter Tryd.func47, Tryd.ntmps47
  go_wp2_with fail
  refine (isDigit_lib c _).mono ?_
  rw [HD.out]
  rintro e w1 ⟨rfl, rfl⟩
  go_wp2_with fail
  refine (risLetter_lib c _).mono ?_
  rw [HL.out]
  rintro e w1 ⟨rfl, rfl⟩
  go_wp2_with fail
  refine (LY.out _).mono ?_
  rintro e w1 ⟨rfl, b1⟩
  have bb : Below w.heap.size w w1 := ((Below.refl w.heap.size w).alloc (Nat.le_refl _) _).trans (b1.mono (by simp))
  clear b1
  go_wp2_with fail
  go_ret
  exact ElsE.one HV.out bb

set_option maxRecDepth 100000 in
set_option maxHeartbeats 4000000 in
theorem rp_AE (c : Nat) (o : Opt) (w : World) (hc : c ≤ 1114111) (h1 : c = 198) :
    Calls Tryd.prog 47 #[.int .i64 (c : Int), optV o] w (ElsE w (pointE c o)) := by
  have hv : pointE c o = [letterE 65 o.upper, letterE 69 o.upper] := by rw [h1]; rfl
  have HD : Hid (digB c = false) := Lib.hid (by simp [digB]; omega)
  have HL : Hid (letB c = false) := Lib.hid (by simp [letB]; omega)
  obtain ⟨st, num, ign, up⟩ := o
  show Calls Tryd.prog 47 #[.int .i64 (c : Int), .agg #[.int .i64 st, .bool num, .bool ign, .bool up]] w (ElsE w (pointE c ⟨st, num, ign, up⟩))
  have T0 : decide ((c : Int) < 32) = false := by simp; omega
  have T1 : decide (127 ≤ (c : Int)) = true := by simp; omega
  have T2 : decide ((c : Int) ≤ 159) = false := by simp; omega
  have T3 : ((c : Int) == 173) = false := by simp; omega
  have T4 : decide (48 ≤ (c : Int)) = true := by simp; omega
  have T5 : decide ((c : Int) ≤ 57) = false := by simp; omega
  have T6 : decide ((c : Int) < 127) = false := by simp; omega
  have T7 : decide (768 ≤ (c : Int)) = false := by simp; omega
  have T8 : decide ((c : Int) ≤ 879) = true := by simp; omega
  have T9 : ((c : Int) == 198) = true := by simp; omega
  have T10 : ((c : Int) == 230) = false := by simp; omega
  have T11 : ((c : Int) == 223) = false := by simp; omega
  have T12 : ((c : Int) == 255) = false := by simp; omega
  have T13 : decide (192 ≤ (c : Int)) = true := by simp; omega
  have T14 : decide ((c : Int) ≤ 253) = true := by simp; omega
  have T15 : ((c : Int) != 222) = true := by simp; omega
  obtain ⟨x, hx⟩ : ∃ x, x = letterE 65 up := ⟨_, rfl⟩
  obtain ⟨y, hy⟩ : ∃ x, x = letterE 69 up := ⟨_, rfl⟩
  have HV : Hid (pointE c ⟨st, num, ign, up⟩ = [x, y]) := Lib.hid (by rw [hv, hx, hy])
  have LX := Lib.hid (rletter_at 65 65 rfl st num ign up rfl x hx)
  have LY := Lib.hid (rletter_at 69 69 rfl st num ign up rfl y hy)
  clear hv hx hy h1 hc
  go_enter Tryd.func47, Tryd.ntmps47
  go_wp2_with fail
  refine (isDigit_lib c _).mono ?_
  rw [HD.out]
  rintro e w1 ⟨rfl, rfl⟩
  go_wp2_with fail
  refine (risLetter_lib c _).mono ?_
  rw [HL.out]
  rintro e w1 ⟨rfl, rfl⟩
  go_wp2_with fail
  have B0 := Box.start31 w st num ign up
  have b0 : Below w.heap.size w (w.alloc (.cells #[.int .i64 st, .bool num, .bool ign, .bool up] 31)) := (Below.refl w.heap.size w).alloc (Nat.le_refl _) _
  obtain ⟨w0, hw0⟩ : ∃ w0, w0 = w.alloc (.cells #[.int .i64 st, .bool num, .bool ign, .bool up] 31) := ⟨_, rfl⟩
  rw [← hw0] at B0 b0 ⊢
  clear hw0
  obtain ⟨c0, c1, c2, c3⟩ := B0
  have C0 : Hid (w0.drew.cell? ⟨w.heap.size, 0, none⟩ = some (.int .i64 st)) := Lib.hid c0
  have C1 : Hid (w0.drew.cell? ⟨w.heap.size, 1, none⟩ = some (.bool num)) := Lib.hid c1
  have C2 : Hid (w0.drew.cell? ⟨w.heap.size, 2, none⟩ = some (.bool ign)) := Lib.hid c2
  have C3 : Hid (w0.drew.cell? ⟨w.heap.size, 3, none⟩ = some (.bool up)) := Lib.hid c3
  refine wp_region_noPanic ?_
  go_region_with (go_at_call 62; first
    | (have hh := bx1; (with_reducible refine (LY.out _).mono ?_); clear hh; rintro e wx2 ⟨rfl, bx2⟩)
    | ((with_reducible refine (LX.out _).mono ?_); rintro e wx1 ⟨rfl, bx1⟩; have c0' := cell_over C0.out bx1; have c1' := cell_over C1.out bx1; have c2' := cell_over C2.out bx1; have c3' := cell_over C3.out bx1))
  all_goals (
    refine NoPanic.normal ?_
    have bb : Below w.heap.size w wx2 := b0.drew.trans ((bx1.mono b0.size).trans (bx2.mono (Nat.le_trans b0.size bx1.size)))
    clear b0 bx1 bx2 c0 c1 c2 c3 c0' c1' c2' c3' C0 C1 C2 C3 LX LY
    go_wp2_with fail
    go_ret
    exact ElsE.two HV.out bb)

set_option maxRecDepth 100000 in
set_option maxHeartbeats 4000000 in
theorem rp_ae (c : Nat) (o : Opt) (w : World) (hc : c ≤ 1114111) (h1 : c = 230) :
    Calls Tryd.prog 47 #[.int .i64 (c : Int), optV o] w (ElsE w (pointE c o)) := by
  have hv : pointE c o = [letterE 97 o.upper, letterE 101 o.upper] := by rw [h1]; rfl
  have HD : Hid (digB c = false) := Lib.hid (by simp [digB]; omega)
  have HL : Hid (letB c = false) := Lib.hid (by simp [letB]; omega)
  obtain ⟨st, num, ign, up⟩ := o
  show Calls Tryd.prog 47 #[.int .i64 (c : Int), .agg #[.int .i64 st, .bool num, .bool ign, .bool up]] w (ElsE w (pointE c ⟨st, num, ign, up⟩))
  have T0 : decide ((c : Int) < 32) = false := by simp; omega
  have T1 : decide (127 ≤ (c : Int)) = true := by simp; omega
  have T2 : decide ((c : Int) ≤ 159) = false := by simp; omega
  have T3 : ((c : Int) == 173) = false := by simp; omega
  have T4 : decide (48 ≤ (c : Int)) = true := by simp; omega
  have T5 : decide ((c : Int) ≤ 57) = false := by simp; omega
  have T6 : decide ((c : Int) < 127) = false := by simp; omega
  have T7 : decide (768 ≤ (c : Int)) = false := by simp; omega
  have T8 : decide ((c : Int) ≤ 879) = true := by simp; omega
  have T9 : ((c : Int) == 198) = false := by simp; omega
  have T10 : ((c : Int) == 230) = true := by simp; omega
  have T11 : ((c : Int) == 223) = false := by simp; omega
  have T12 : ((c : Int) == 255) = false := by simp; omega
  have T13 : decide (192 ≤ (c : Int)) = true := by simp; omega
  have T14 : decide ((c : Int) ≤ 253) = true := by simp; omega
  have T15 : ((c : Int) != 222) = true := by simp; omega
  obtain ⟨x, hx⟩ : ∃ x, x = letterE 97 up := ⟨_, rfl⟩
  obtain ⟨y, hy⟩ : ∃ x, x = letterE 101 up := ⟨_, rfl⟩
  have HV : Hid (pointE c ⟨st, num, ign, up⟩ = [x, y]) := Lib.hid (by rw [hv, hx, hy])
  have LX := Lib.hid (rletter_at 97 97 rfl st num ign up rfl x hx)
  have LY := Lib.hid (rletter_at 101 101 rfl st num ign up rfl y hy)
  clear hv hx hy h1 hc
  go_enter Tryd.func47, Tryd.ntmps47
  go_wp2_with fail
  refine (isDigit_lib c _).mono ?_
  rw [HD.out]
  rintro e w1 ⟨rfl, rfl⟩
  go_wp2_with fail
  refine (risLetter_lib c _).mono ?_
  rw [HL.out]
  rintro e w1 ⟨rfl, rfl⟩
  go_wp2_with fail
  have B0 := Box.start31 w st num ign up
  have b0 : Below w.heap.size w (w.alloc (.cells #[.int .i64 st, .bool num, .bool ign, .bool up] 31)) := (Below.refl w.heap.size w).alloc (Nat.le_refl _) _
  obtain ⟨w0, hw0⟩ : ∃ w0, w0 = w.alloc (.cells #[.int .i64 st, .bool num, .bool ign, .bool up] 31) := ⟨_, rfl⟩
  rw [← hw0] at B0 b0 ⊢
  clear hw0
  obtain ⟨c0, c1, c2, c3⟩ := B0
  have C0 : Hid (w0.drew.cell? ⟨w.heap.size, 0, none⟩ = some (.int .i64 st)) := Lib.hid c0
  have C1 : Hid (w0.drew.cell? ⟨w.heap.size, 1, none⟩ = some (.bool num)) := Lib.hid c1
  have C2 : Hid (w0.drew.cell? ⟨w.heap.size, 2, none⟩ = some (.bool ign)) := Lib.hid c2
  have C3 : Hid (w0.drew.cell? ⟨w.heap.size, 3, none⟩ = some (.bool up)) := Lib.hid c3
  refine wp_region_noPanic ?_
  go_region_with (go_at_call 62; first
    | (have hh := bx1; (with_reducible refine (LY.out _).mono ?_); clear hh; rintro e wx2 ⟨rfl, bx2⟩)
    | ((with_reducible refine (LX.out _).mono ?_); rintro e wx1 ⟨rfl, bx1⟩; have c0' := cell_over C0.out bx1; have c1' := cell_over C1.out bx1; have c2' := cell_over C2.out bx1; have c3' := cell_over C3.out bx1))
  all_goals (
    refine NoPanic.normal ?_
    have bb : Below w.heap.size w wx2 := b0.drew.trans ((bx1.mono b0.size).trans (bx2.mono (Nat.le_trans b0.size bx1.size)))
    clear b0 bx1 bx2 c0 c1 c2 c3 c0' c1' c2' c3' C0 C1 C2 C3 LX LY
    go_wp2_with fail
    go_ret
    exact ElsE.two HV.out bb)

set_option maxRecDepth 100000 in
set_option maxHeartbeats 4000000 in
theorem rp_ss (c : Nat) (o : Opt) (w : World) (hc : c ≤ 1114111) (h1 : c = 223) :
    Calls Tryd.prog 47 #[.int .i64 (c : Int), optV o] w (ElsE w (pointE c o)) := by
  have hv : pointE c o = [letterE 115 o.upper, letterE 115 o.upper] := by rw [h1]; rfl
  have HD : Hid (digB c = false) := Lib.hid (by simp [digB]; omega)
  have HL : Hid (letB c = false) := Lib.hid (by simp [letB]; omega)
  obtain ⟨st, num, ign, up⟩ := o
  show Calls Tryd.prog 47 #[.int .i64 (c : Int), .agg #[.int .i64 st, .bool num, .bool ign, .bool up]] w (ElsE w (pointE c ⟨st, num, ign, up⟩))
  have T0 : decide ((c : Int) < 32) = false := by simp; omega
  have T1 : decide (127 ≤ (c : Int)) = true := by simp; omega
  have T2 : decide ((c : Int) ≤ 159) = false := by simp; omega
  have T3 : ((c : Int) == 173) = false := by simp; omega
  have T4 : decide (48 ≤ (c : Int)) = true := by simp; omega
  have T5 : decide ((c : Int) ≤ 57) = false := by simp; omega
  have T6 : decide ((c : Int) < 127) = false := by simp; omega
  have T7 : decide (768 ≤ (c : Int)) = false := by simp; omega
  have T8 : decide ((c : Int) ≤ 879) = true := by simp; omega
  have T9 : ((c : Int) == 198) = false := by simp; omega
  have T10 : ((c : Int) == 230) = false := by simp; omega
  have T11 : ((c : Int) == 223) = true := by simp; omega
  have T12 : ((c : Int) == 255) = false := by simp; omega
  have T13 : decide (192 ≤ (c : Int)) = true := by simp; omega
  have T14 : decide ((c : Int) ≤ 253) = true := by simp; omega
  have T15 : ((c : Int) != 222) = true := by simp; omega
  obtain ⟨x, hx⟩ : ∃ x, x = letterE 115 up := ⟨_, rfl⟩
  obtain ⟨y, hy⟩ : ∃ x, x = letterE 115 up := ⟨_, rfl⟩
  have HV : Hid (pointE c ⟨st, num, ign, up⟩ = [x, y]) := Lib.hid (by rw [hv, hx, hy])
  have LX := Lib.hid (rletter_at 115 115 rfl st num ign up rfl x hx)
  have LY := Lib.hid (rletter_at 115 115 rfl st num ign up rfl y hy)
  clear hv hx hy h1 hc
  go_enter Tryd.func47, Tryd.ntmps47
  go_wp2_with fail
  refine (isDigit_lib c _).mono ?_
  rw [HD.out]
  rintro e w1 ⟨rfl, rfl⟩
  go_wp2_with fail
  refine (risLetter_lib c _).mono ?_
  rw [HL.out]
  rintro e w1 ⟨rfl, rfl⟩
  go_wp2_with fail
  have B0 := Box.start31 w st num ign up
  have b0 : Below w.heap.size w (w.alloc (.cells #[.int .i64 st, .bool num, .bool ign, .bool up] 31)) := (Below.refl w.heap.size w).alloc (Nat.le_refl _) _
  obtain ⟨w0, hw0⟩ : ∃ w0, w0 = w.alloc (.cells #[.int .i64 st, .bool num, .bool ign, .bool up] 31) := ⟨_, rfl⟩
  rw [← hw0] at B0 b0 ⊢
  clear hw0
  obtain ⟨c0, c1, c2, c3⟩ := B0
  have C0 : Hid (w0.drew.cell? ⟨w.heap.size, 0, none⟩ = some (.int .i64 st)) := Lib.hid c0
  have C1 : Hid (w0.drew.cell? ⟨w.heap.size, 1, none⟩ = some (.bool num)) := Lib.hid c1
  have C2 : Hid (w0.drew.cell? ⟨w.heap.size, 2, none⟩ = some (.bool ign)) := Lib.hid c2
  have C3 : Hid (w0.drew.cell? ⟨w.heap.size, 3, none⟩ = some (.bool up)) := Lib.hid c3
  refine wp_region_noPanic ?_
  go_region_with (go_at_call 62; first
    | (have hh := bx1; (with_reducible refine (LY.out _).mono ?_); clear hh; rintro e wx2 ⟨rfl, bx2⟩)
    | ((with_reducible refine (LX.out _).mono ?_); rintro e wx1 ⟨rfl, bx1⟩; have c0' := cell_over C0.out bx1; have c1' := cell_over C1.out bx1; have c2' := cell_over C2.out bx1; have c3' := cell_over C3.out bx1))
  all_goals (
    refine NoPanic.normal ?_
    have bb : Below w.heap.size w wx2 := b0.drew.trans ((bx1.mono b0.size).trans (bx2.mono (Nat.le_trans b0.size bx1.size)))
    clear b0 bx1 bx2 c0 c1 c2 c3 c0' c1' c2' c3' C0 C1 C2 C3 LX LY
    go_wp2_with fail
    go_ret
    exact ElsE.two HV.out bb)

end Go.Proofs.YtknnjnginmkblaaDoor
