/- Walks: the elements of one code point: two letters. -/
import Derived.Test.YtknnjnginmkblaaDoorW6
import Derived.Deep.RegionHeld3
namespace Go.Proofs.YtknnjnginmkblaaDoor
open Go.RowKit

theorem letter_at (n : Nat) (k : Int) (hk : (n : Int) = k) (st : Int) (num ign up : Bool) (h : letB n = true) (x : El) (hx : x = letterE n up) (w : World) :
    Calls Tryd.prog 76 #[.int .i64 k, .agg #[.int .i64 st, .bool num, .bool ign, .bool up]] w fun e w' => e = .returned (.agg #[.int .i64 (x.p : Int), .int .i64 (x.s : Int), .int .i64 (x.t : Int)]) ∧ Below w.heap.size w w' := by
  rw [← hk, hx]
  exact letter_lib n ⟨st, num, ign, up⟩ w h
/-- The options lie in the call's box. -/
def Box (W : World) (st : Int) (num ign up : Bool) (w : World) : Prop :=
  w.cell? ⟨W.heap.size, 0, none⟩ = some (.int .i64 st) ∧ w.cell? ⟨W.heap.size, 1, none⟩ = some (.bool num) ∧ w.cell? ⟨W.heap.size, 2, none⟩ = some (.bool ign) ∧ w.cell? ⟨W.heap.size, 3, none⟩ = some (.bool up)
theorem Box.over {W w w' : World} {st : Int} {num ign up : Bool} (h : Box W st num ign up w) (hb : Below w.heap.size w w') : Box W st num ign up w' :=
  ⟨cell_over h.1 hb, cell_over h.2.1 hb, cell_over h.2.2.1 hb, cell_over h.2.2.2 hb⟩
theorem Box.drew {W w : World} {st : Int} {num ign up : Bool} (h : Box W st num ign up w) : Box W st num ign up w.drew := h
theorem Box.drewN {W w : World} {st : Int} {num ign up : Bool} (h : Box W st num ign up w) (n : Nat) : Box W st num ign up (w.drewN n) := h
theorem Box.start (W : World) (st : Int) (num ign up : Bool) : Box W st num ign up (W.alloc (.cells #[.int .i64 st, .bool num, .bool ign, .bool up] 23)) := by
  refine ⟨?_, ?_, ?_, ?_⟩ <;> go_simp

set_option maxRecDepth 100000 in
set_option maxHeartbeats 4000000 in
theorem point_AE (c : Nat) (o : Opt) (w : World) (hc : c ≤ 1114111) (h1 : c = 198) :
    Calls Tryd.prog 57 #[.int .i64 (c : Int), optV o] w (ElsE w (pointE c o)) := by
  have h3 : letB c = false := by rw [h1]; rfl
  have hv : pointE c o = [letterE 65 o.upper, letterE 69 o.upper] := by rw [h1]; rfl
  have HL : Hid (letB c = false) := Lib.hid h3
  clear h3
  obtain ⟨st, num, ign, up⟩ := o
  show Calls Tryd.prog 57 #[.int .i64 (c : Int), .agg #[.int .i64 st, .bool num, .bool ign, .bool up]] w (ElsE w (pointE c ⟨st, num, ign, up⟩))
  have T0 : decide ((c : Int) < 32) = false := by simp; omega
  have T1 : decide (127 ≤ (c : Int)) = true := by simp; omega
  have T2 : decide ((c : Int) ≤ 159) = false := by simp; omega
  have T3 : ((c : Int) == 173) = false := by simp; omega
  have T4 : decide (48 ≤ (c : Int)) = true := by simp; omega
  have T5 : decide ((c : Int) ≤ 57) = false := by simp; omega
  have T6 : decide ((c : Int) < 127) = false := by simp; omega
  have T7 : decide (768 ≤ (c : Int)) = false := by simp; omega
  have T8 : decide ((c : Int) ≤ 879) = true := by simp; omega
  have T9 : ((c : Int) == 198) = true := by simp; omega
  have T10 : ((c : Int) == 230) = false := by simp; omega
  have T11 : ((c : Int) == 223) = false := by simp; omega
  have T12 : ((c : Int) == 255) = false := by simp; omega
  have T13 : decide (192 ≤ (c : Int)) = true := by simp; omega
  have T14 : decide ((c : Int) ≤ 253) = true := by simp; omega
  have T15 : ((c : Int) != 222) = true := by simp; omega
  obtain ⟨x, hx⟩ : ∃ x, x = letterE 65 up := ⟨_, rfl⟩
  obtain ⟨y, hy⟩ : ∃ x, x = letterE 69 up := ⟨_, rfl⟩
  have HV : Hid (pointE c ⟨st, num, ign, up⟩ = [x, y]) := Lib.hid (by rw [hv, hx, hy])
  have LX := Lib.hid (letter_at 65 65 rfl st num ign up rfl x hx)
  have LY := Lib.hid (letter_at 69 69 rfl st num ign up rfl y hy)
  clear hv hx hy h1 hc
  go_enter Tryd.func57, Tryd.ntmps57
  go_wp2_with fail
  refine (isLetter_lib c _).mono ?_
  rw [HL.out]
  rintro e w1 ⟨rfl, rfl⟩
  go_wp2_with fail
  have B0 := Box.start w st num ign up
  have b0 : Below w.heap.size w (w.alloc (.cells #[.int .i64 st, .bool num, .bool ign, .bool up] 23)) := (Below.refl w.heap.size w).alloc (Nat.le_refl _) _
  obtain ⟨w0, hw0⟩ : ∃ w0, w0 = w.alloc (.cells #[.int .i64 st, .bool num, .bool ign, .bool up] 23) := ⟨_, rfl⟩
  rw [← hw0] at B0 b0 ⊢
  clear hw0
  obtain ⟨c0, c1, c2, c3⟩ := B0
  have C0 : Hid (w0.drew.cell? ⟨w.heap.size, 0, none⟩ = some (.int .i64 st)) := Lib.hid c0
  have C1 : Hid (w0.drew.cell? ⟨w.heap.size, 1, none⟩ = some (.bool num)) := Lib.hid c1
  have C2 : Hid (w0.drew.cell? ⟨w.heap.size, 2, none⟩ = some (.bool ign)) := Lib.hid c2
  have C3 : Hid (w0.drew.cell? ⟨w.heap.size, 3, none⟩ = some (.bool up)) := Lib.hid c3
  refine wp_region_noPanic ?_
  go_region_with (go_at_call 76; first
    | (have hh := bx1; (with_reducible refine (LY.out _).mono ?_); clear hh; rintro e wx2 ⟨rfl, bx2⟩)
    | ((with_reducible refine (LX.out _).mono ?_); rintro e wx1 ⟨rfl, bx1⟩; have c0' := cell_over C0.out bx1; have c1' := cell_over C1.out bx1; have c2' := cell_over C2.out bx1; have c3' := cell_over C3.out bx1))
  all_goals (
    refine NoPanic.normal ?_
    have bb : Below w.heap.size w wx2 := b0.drew.trans ((bx1.mono b0.size).trans (bx2.mono (Nat.le_trans b0.size bx1.size)))
    clear b0 bx1 bx2 c0 c1 c2 c3 c0' c1' c2' c3' C0 C1 C2 C3 LX LY
    go_wp2_with fail
    go_ret
    exact ElsE.two HV.out bb)
set_option maxRecDepth 100000 in
set_option maxHeartbeats 4000000 in
theorem point_ae (c : Nat) (o : Opt) (w : World) (hc : c ≤ 1114111) (h1 : c = 230) :
    Calls Tryd.prog 57 #[.int .i64 (c : Int), optV o] w (ElsE w (pointE c o)) := by
  have h3 : letB c = false := by rw [h1]; rfl
  have hv : pointE c o = [letterE 97 o.upper, letterE 101 o.upper] := by rw [h1]; rfl
  have HL : Hid (letB c = false) := Lib.hid h3
  clear h3
  obtain ⟨st, num, ign, up⟩ := o
  show Calls Tryd.prog 57 #[.int .i64 (c : Int), .agg #[.int .i64 st, .bool num, .bool ign, .bool up]] w (ElsE w (pointE c ⟨st, num, ign, up⟩))
  have T0 : decide ((c : Int) < 32) = false := by simp; omega
  have T1 : decide (127 ≤ (c : Int)) = true := by simp; omega
  have T2 : decide ((c : Int) ≤ 159) = false := by simp; omega
  have T3 : ((c : Int) == 173) = false := by simp; omega
  have T4 : decide (48 ≤ (c : Int)) = true := by simp; omega
  have T5 : decide ((c : Int) ≤ 57) = false := by simp; omega
  have T6 : decide ((c : Int) < 127) = false := by simp; omega
  have T7 : decide (768 ≤ (c : Int)) = false := by simp; omega
  have T8 : decide ((c : Int) ≤ 879) = true := by simp; omega
  have T9 : ((c : Int) == 198) = false := by simp; omega
  have T10 : ((c : Int) == 230) = true := by simp; omega
  have T11 : ((c : Int) == 223) = false := by simp; omega
  have T12 : ((c : Int) == 255) = false := by simp; omega
  have T13 : decide (192 ≤ (c : Int)) = true := by simp; omega
  have T14 : decide ((c : Int) ≤ 253) = true := by simp; omega
  have T15 : ((c : Int) != 222) = true := by simp; omega
  obtain ⟨x, hx⟩ : ∃ x, x = letterE 97 up := ⟨_, rfl⟩
  obtain ⟨y, hy⟩ : ∃ x, x = letterE 101 up := ⟨_, rfl⟩
  have HV : Hid (pointE c ⟨st, num, ign, up⟩ = [x, y]) := Lib.hid (by rw [hv, hx, hy])
  have LX := Lib.hid (letter_at 97 97 rfl st num ign up rfl x hx)
  have LY := Lib.hid (letter_at 101 101 rfl st num ign up rfl y hy)
  clear hv hx hy h1 hc
  go_enter Tryd.func57, Tryd.ntmps57
  go_wp2_with fail
  refine (isLetter_lib c _).mono ?_
  rw [HL.out]
  rintro e w1 ⟨rfl, rfl⟩
  go_wp2_with fail
  have B0 := Box.start w st num ign up
  have b0 : Below w.heap.size w (w.alloc (.cells #[.int .i64 st, .bool num, .bool ign, .bool up] 23)) := (Below.refl w.heap.size w).alloc (Nat.le_refl _) _
  obtain ⟨w0, hw0⟩ : ∃ w0, w0 = w.alloc (.cells #[.int .i64 st, .bool num, .bool ign, .bool up] 23) := ⟨_, rfl⟩
  rw [← hw0] at B0 b0 ⊢
  clear hw0
  obtain ⟨c0, c1, c2, c3⟩ := B0
  have C0 : Hid (w0.drew.cell? ⟨w.heap.size, 0, none⟩ = some (.int .i64 st)) := Lib.hid c0
  have C1 : Hid (w0.drew.cell? ⟨w.heap.size, 1, none⟩ = some (.bool num)) := Lib.hid c1
  have C2 : Hid (w0.drew.cell? ⟨w.heap.size, 2, none⟩ = some (.bool ign)) := Lib.hid c2
  have C3 : Hid (w0.drew.cell? ⟨w.heap.size, 3, none⟩ = some (.bool up)) := Lib.hid c3
  refine wp_region_noPanic ?_
  go_region_with (go_at_call 76; first
    | (have hh := bx1; (with_reducible refine (LY.out _).mono ?_); clear hh; rintro e wx2 ⟨rfl, bx2⟩)
    | ((with_reducible refine (LX.out _).mono ?_); rintro e wx1 ⟨rfl, bx1⟩; have c0' := cell_over C0.out bx1; have c1' := cell_over C1.out bx1; have c2' := cell_over C2.out bx1; have c3' := cell_over C3.out bx1))
  all_goals (
    refine NoPanic.normal ?_
    have bb : Below w.heap.size w wx2 := b0.drew.trans ((bx1.mono b0.size).trans (bx2.mono (Nat.le_trans b0.size bx1.size)))
    clear b0 bx1 bx2 c0 c1 c2 c3 c0' c1' c2' c3' C0 C1 C2 C3 LX LY
    go_wp2_with fail
    go_ret
    exact ElsE.two HV.out bb)
set_option maxRecDepth 100000 in
set_option maxHeartbeats 4000000 in
theorem point_ss (c : Nat) (o : Opt) (w : World) (hc : c ≤ 1114111) (h1 : c = 223) :
    Calls Tryd.prog 57 #[.int .i64 (c : Int), optV o] w (ElsE w (pointE c o)) := by
  have h3 : letB c = false := by rw [h1]; rfl
  have hv : pointE c o = [letterE 115 o.upper, letterE 115 o.upper] := by rw [h1]; rfl
  have HL : Hid (letB c = false) := Lib.hid h3
  clear h3
  obtain ⟨st, num, ign, up⟩ := o
  show Calls Tryd.prog 57 #[.int .i64 (c : Int), .agg #[.int .i64 st, .bool num, .bool ign, .bool up]] w (ElsE w (pointE c ⟨st, num, ign, up⟩))
  have T0 : decide ((c : Int) < 32) = false := by simp; omega
  have T1 : decide (127 ≤ (c : Int)) = true := by simp; omega
  have T2 : decide ((c : Int) ≤ 159) = false := by simp; omega
  have T3 : ((c : Int) == 173) = false := by simp; omega
  have T4 : decide (48 ≤ (c : Int)) = true := by simp; omega
  have T5 : decide ((c : Int) ≤ 57) = false := by simp; omega
  have T6 : decide ((c : Int) < 127) = false := by simp; omega
  have T7 : decide (768 ≤ (c : Int)) = false := by simp; omega
  have T8 : decide ((c : Int) ≤ 879) = true := by simp; omega
  have T9 : ((c : Int) == 198) = false := by simp; omega
  have T10 : ((c : Int) == 230) = false := by simp; omega
  have T11 : ((c : Int) == 223) = true := by simp; omega
  have T12 : ((c : Int) == 255) = false := by simp; omega
  have T13 : decide (192 ≤ (c : Int)) = true := by simp; omega
  have T14 : decide ((c : Int) ≤ 253) = true := by simp; omega
  have T15 : ((c : Int) != 222) = true := by simp; omega
  obtain ⟨x, hx⟩ : ∃ x, x = letterE 115 up := ⟨_, rfl⟩
  obtain ⟨y, hy⟩ : ∃ x, x = letterE 115 up := ⟨_, rfl⟩
  have HV : Hid (pointE c ⟨st, num, ign, up⟩ = [x, y]) := Lib.hid (by rw [hv, hx, hy])
  have LX := Lib.hid (letter_at 115 115 rfl st num ign up rfl x hx)
  have LY := Lib.hid (letter_at 115 115 rfl st num ign up rfl y hy)
  clear hv hx hy h1 hc
  go_enter Tryd.func57, Tryd.ntmps57
  go_wp2_with fail
  refine (isLetter_lib c _).mono ?_
  rw [HL.out]
  rintro e w1 ⟨rfl, rfl⟩
  go_wp2_with fail
  have B0 := Box.start w st num ign up
  have b0 : Below w.heap.size w (w.alloc (.cells #[.int .i64 st, .bool num, .bool ign, .bool up] 23)) := (Below.refl w.heap.size w).alloc (Nat.le_refl _) _
  obtain ⟨w0, hw0⟩ : ∃ w0, w0 = w.alloc (.cells #[.int .i64 st, .bool num, .bool ign, .bool up] 23) := ⟨_, rfl⟩
  rw [← hw0] at B0 b0 ⊢
  clear hw0
  obtain ⟨c0, c1, c2, c3⟩ := B0
  have C0 : Hid (w0.drew.cell? ⟨w.heap.size, 0, none⟩ = some (.int .i64 st)) := Lib.hid c0
  have C1 : Hid (w0.drew.cell? ⟨w.heap.size, 1, none⟩ = some (.bool num)) := Lib.hid c1
  have C2 : Hid (w0.drew.cell? ⟨w.heap.size, 2, none⟩ = some (.bool ign)) := Lib.hid c2
  have C3 : Hid (w0.drew.cell? ⟨w.heap.size, 3, none⟩ = some (.bool up)) := Lib.hid c3
  refine wp_region_noPanic ?_
  go_region_with (go_at_call 76; first
    | (have hh := bx1; (with_reducible refine (LY.out _).mono ?_); clear hh; rintro e wx2 ⟨rfl, bx2⟩)
    | ((with_reducible refine (LX.out _).mono ?_); rintro e wx1 ⟨rfl, bx1⟩; have c0' := cell_over C0.out bx1; have c1' := cell_over C1.out bx1; have c2' := cell_over C2.out bx1; have c3' := cell_over C3.out bx1))
  all_goals (
    refine NoPanic.normal ?_
    have bb : Below w.heap.size w wx2 := b0.drew.trans ((bx1.mono b0.size).trans (bx2.mono (Nat.le_trans b0.size bx1.size)))
    clear b0 bx1 bx2 c0 c1 c2 c3 c0' c1' c2' c3' C0 C1 C2 C3 LX LY
    go_wp2_with fail
    go_ret
    exact ElsE.two HV.out bb)
end Go.Proofs.YtknnjnginmkblaaDoor
