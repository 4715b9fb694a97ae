/- Walks: the elements of one code point: the accented letters. -/
import Derived.Test.YtknnjnginmkblaaDoorW9
namespace Go.Proofs.YtknnjnginmkblaaDoor
open Go.RowKit

theorem acc_all : ∀ k, k < 30 → (accL.getD k (0, 0)).1 ≠ 0 → letB (accL.getD k (0, 0)).1 = true ∧ letB ((accL.getD k (0, 0)).1 + 32) = true ∧ 768 ≤ (accL.getD k (0, 0)).2 ∧ (accL.getD k (0, 0)).2 ≤ 879 ∧ (accL.getD k (0, 0)).1 ≤ 90 := by decide
theorem acc_small : ∀ k, k < 30 → (accL.getD k (0, 0)).1 < 256 ∧ (accL.getD k (0, 0)).2 < 65536 := by decide
theorem acc_get (k : Nat) (hk : k < 30) (a m : Nat) (h : accL.getD k (0, 0) = (a, m)) : accV[k * 2]? = some (.int .u8 (a : Int)) ∧ accV[k * 2 + 1]? = some (.int .i64 (m : Int)) := by
  have hg : accL[k]? = some (a, m) := by
    rw [← h, List.getD_eq_getElem?_getD]
    have : k < accL.length := hk
    rw [List.getElem?_eq_getElem this]; rfl
  have he : ∀ x : Nat × Nat, [Value.int .u8 (x.1 : Int), Value.int .i64 (x.2 : Int)].length = 2 := fun _ => rfl
  have h0 := flatMap_get (enc := fun x : Nat × Nat => [Value.int .u8 (x.1 : Int), Value.int .i64 (x.2 : Int)]) he accL k (a, m) hg 0 _ rfl
  have h1 := flatMap_get (enc := fun x : Nat × Nat => [Value.int .u8 (x.1 : Int), Value.int .i64 (x.2 : Int)]) he accL k (a, m) hg 1 _ rfl
  unfold accV
  exact ⟨by simpa using h0, by simpa using h1⟩

/-- A whole array stored into a block that was just made. -/
theorem wpList_store_new {P : Program} {ops : Array Oper} {rest : List Oper} {o : Oper} {a : Act} {w1 : World} {Q : Exit → Act → World → Prop} (hgd : o.guard = none) (ty : TypeId) (x y : Operand) (ho : o.op = .store ty x y)
    (cells : Array Value) (hx : a.eval x = .pointer (some ⟨w1.heap.size, 0, none⟩)) (hy : a.eval y = .agg cells)
    (t : TypeId) (old : Array Value) (hi : (P.info? ty).map (·.size) = some cells.size)
    (hold : old.size = cells.size) (h1 : cells.all (·.oneCell') = true)
    (h : ∀ w2 : World, w2.heap[w1.heap.size]? = some (.cells cells t (0, 0)) → Below w1.heap.size w1 w2 → w1.heap.size < w2.heap.size → wpList P ops Q rest (a.put o.dst undef) w2) : wpList P ops Q (o :: rest) a (w1.alloc (.cells old t)) :=
  wpList_store_row hgd ty x y ho w1.heap.size cells hx hy t old (heap_alloc_new _ _) hi hold h1
    (h _ (setRow_heap _ _ _ _ _ _ (heap_alloc_new _ _)) (below_setRow ((Below.refl _ _).alloc (Nat.le_refl _) _) (Nat.le_refl _) _) (by simp))

set_option maxRecDepth 100000 in
set_option maxHeartbeats 4000000 in
theorem point_acc_up_0 (c : Nat) (o : Opt) (w : World) (h1 : 192 ≤ c) (h2 : c ≤ 221) (h3 : c ≠ 198) (h4 : c ≠ 230) (a m : Nat) (ha : accL.getD (c - 192) (0, 0) = (a, m)) (h0 : a ≠ 0) :
    Calls Tryd.prog 57 #[.int .i64 (c : Int), optV o] w (ElsE w (pointE c o)) := by
  have hl : letB c = false := by simp [letB]; omega
  have hacc : accOf c = (a, m) := by
    unfold accOf
    rw [if_neg (by omega), ha]
  have hv : pointE c o = [letterE a o.upper, markE m] := by
    unfold pointE
    rw [if_neg (by omega), if_neg (by simp [digB]; omega), if_neg (by rw [hl]; simp), if_neg (by omega), if_neg (by omega), if_neg (by omega), if_neg (by omega), if_neg (by omega), if_neg (by omega), if_pos (by omega), hacc]
    exact if_neg h0
  clear hacc
  have hs := acc_small (c - 192) (by omega)
  have hA := acc_all (c - 192) (by omega) (by rw [ha]; exact h0)
  rw [ha] at hA
  rw [ha] at hs
  obtain ⟨q1, q2⟩ := acc_get (c - 192) (by omega) a m ha
  have HL : Hid (letB c = false) := Lib.hid hl
  clear hl
  obtain ⟨st, num, ign, up⟩ := o
  show Calls Tryd.prog 57 #[.int .i64 (c : Int), .agg #[.int .i64 st, .bool num, .bool ign, .bool up]] w (ElsE w (pointE c ⟨st, num, ign, up⟩))
  have T0 : decide ((c : Int) < 32) = false := by simp; omega
  have T1 : decide (127 ≤ (c : Int)) = true := by simp; omega
  have T2 : decide ((c : Int) ≤ 159) = false := by simp; omega
  have T3 : ((c : Int) == 173) = false := by simp; omega
  have T4 : decide (48 ≤ (c : Int)) = true := by simp; omega
  have T5 : decide ((c : Int) ≤ 57) = false := by simp; omega
  have T6 : decide ((c : Int) < 127) = false := by simp; omega
  have T7 : decide (768 ≤ (c : Int)) = false := by simp; omega
  have T8 : decide ((c : Int) ≤ 879) = true := by simp; omega
  have T9 : ((c : Int) == 198) = false := by simp; omega
  have T10 : ((c : Int) == 230) = false := by simp; omega
  have T11 : ((c : Int) == 223) = false := by simp; omega
  have T12 : ((c : Int) == 255) = false := by simp; omega
  have T13 : decide (192 ≤ (c : Int)) = true := by simp; omega
  have T14 : decide ((c : Int) ≤ 253) = true := by simp; omega
  have T15 : ((c : Int) != 222) = true := by simp; omega
  have T16 : decide (224 ≤ (c : Int)) = false := by simp; omega
  have T17 : ((a : Int) != 0) = true := by simp; omega
  obtain ⟨k, hk⟩ : ∃ k, k = c - 192 := ⟨_, rfl⟩
  rw [← hk] at q1 q2
  have e2 : IntKind.i64.wrap ((c : Int) - 192) = (k : Int) := by rw [IntWalk.i64_in _ (by omega)]; omega
  have k1 : k < 30 := by omega
  have k2 : (k : Int) < 30 := by omega
  have Q1 := Lib.hid q1
  have Q2 := Lib.hid q2
  obtain ⟨V, hVV⟩ : ∃ V, V = accV := ⟨_, rfl⟩
  have HI : Hid ((Tryd.prog.info? 112).map (·.size) = some V.size) := Lib.hid (by rw [hVV]; exact info112)
  have HS : Hid (V.size = 60) := Lib.hid (by rw [hVV]; kernel_rfl)
  have HO : Hid (V.all (·.oneCell') = true) := Lib.hid (by rw [hVV]; exact one112)
  have LL := Lib.hid letters_lib
  rw [← hVV] at LL Q1 Q2
  obtain ⟨z, hz⟩ : ∃ z, z = a := ⟨_, rfl⟩
  have hzl : letB z = true := by rw [hz]; exact hA.1
  rw [← hz] at hv
  have e8 : IntKind.i64.wrap (a : Int) = (z : Int) := by rw [IntWalk.i64_in _ (by omega)]; omega
  have e9 : (a : Int) = (z : Int) := by omega
  have e6 : IntKind.i64.wrap (a : Int) = (a : Int) := IntWalk.i64_in _ (by omega)
  obtain ⟨x, hx⟩ : ∃ x, x = letterE z up := ⟨_, rfl⟩
  obtain ⟨y, hy⟩ : ∃ x, x = markE m := ⟨_, rfl⟩
  have HV : Hid (pointE c ⟨st, num, ign, up⟩ = [x, y]) := Lib.hid (by rw [hv, hx, hy])
  have LX := Lib.hid (letter_at z z rfl st num ign up hzl x hx)
  have LY : Hid (∀ w : World, Calls Tryd.prog 77 #[.int .i64 (m : Int)] w fun e w' => e = .returned (.agg #[.int .i64 (y.p : Int), .int .i64 (y.s : Int), .int .i64 (y.t : Int)]) ∧ Below w.heap.size w w') := Lib.hid (by rw [hy]; exact fun w => mark_lib m w (by omega) (by omega))
  clear hv hx hy hzl hA h0 h1 h2 h3 h4 ha hs hk q1 q2 hVV
  subst hz
  clear e9
  go_enter Tryd.func57, Tryd.ntmps57
  go_wp2_with fail
  refine (isLetter_lib c _).mono ?_
  rw [HL.out]
  rintro e w1 ⟨rfl, rfl⟩
  go_wp2_with fail
  have B0 := Box.start w st num ign up
  have b0 : Below w.heap.size w (w.alloc (.cells #[.int .i64 st, .bool num, .bool ign, .bool up] 23)) := (Below.refl w.heap.size w).alloc (Nat.le_refl _) _
  have z0 : w.heap.size < (w.alloc (.cells #[.int .i64 st, .bool num, .bool ign, .bool up] 23)).heap.size := by simp
  obtain ⟨w0, hw0⟩ : ∃ w0, w0 = w.alloc (.cells #[.int .i64 st, .bool num, .bool ign, .bool up] 23) := ⟨_, rfl⟩
  rw [← hw0] at B0 b0 z0 ⊢
  clear hw0
  refine (LL.out _).mono ?_
  rintro e w1 ⟨rfl, b1⟩
  have B1 := B0.over b1
  have b1' : Below w.heap.size w w1 := b0.trans (b1.mono b0.size)
  have z1 : w.heap.size < w1.heap.size := Nat.lt_of_lt_of_le z0 b1.size
  clear B0 b0 z0 b1
  go_wp2_with (refine wpList_store_new rfl 112 _ _ rfl V rfl rfl 112 _ HI.out (by rw [HS.out]; kernel_rfl) HO.out ?_; intro w2 F2 b2 z2; obtain ⟨d0, d1, d2, d3⟩ := B1.over b2; have f0 := (blk_cell F2 (k * 2)).trans Q1.out; have f1 := (blk_cell F2 (k * 2 + 1)).trans Q2.out; clear F2)
  have b2' : Below w.heap.size w w2 := b1'.trans (b2.mono (Nat.le_of_lt z1))
  have b3 : Below w.heap.size w (w2.alloc (.cells #[.int .u8 (z : Int), .int .i64 (m : Int)] 111)) := b2'.alloc (Nat.le_of_lt (Nat.lt_trans z1 z2)) _
  have B3 : Below w2.heap.size w2 (w2.alloc (.cells #[.int .u8 (z : Int), .int .i64 (m : Int)] 111)) := (Below.refl _ _).alloc (Nat.le_refl _) _
  have D0 := cell_over d0 B3
  have D1 := cell_over d1 B3
  have D2 := cell_over d2 B3
  have D3 := cell_over d3 B3
  have G0 : (w2.alloc (.cells #[.int .u8 (z : Int), .int .i64 (m : Int)] 111)).cell? ⟨w2.heap.size, 0, none⟩ = some (.int .u8 (z : Int)) := by go_simp
  have G1 : (w2.alloc (.cells #[.int .u8 (z : Int), .int .i64 (m : Int)] 111)).cell? ⟨w2.heap.size, 1, none⟩ = some (.int .i64 (m : Int)) := by go_simp
  have z3 : w.heap.size ≤ (w2.alloc (.cells #[.int .u8 (z : Int), .int .i64 (m : Int)] 111)).heap.size := by simp; omega
  obtain ⟨w3, hw3⟩ : ∃ w3, w3 = w2.alloc (.cells #[.int .u8 (z : Int), .int .i64 (m : Int)] 111) := ⟨_, rfl⟩
  rw [← hw3] at b3 D0 D1 D2 D3 G0 G1 z3 ⊢
  clear hw3 B3 d0 d1 d2 d3 f0 f1 b2 b2' b1'
  have C0 : Hid (w3.drew.cell? ⟨w.heap.size, 0, none⟩ = some (.int .i64 st)) := Lib.hid D0
  have C1 : Hid (w3.drew.cell? ⟨w.heap.size, 1, none⟩ = some (.bool num)) := Lib.hid D1
  have C2 : Hid (w3.drew.cell? ⟨w.heap.size, 2, none⟩ = some (.bool ign)) := Lib.hid D2
  have C3 : Hid (w3.drew.cell? ⟨w.heap.size, 3, none⟩ = some (.bool up)) := Lib.hid D3
  have C4 : Hid (w3.drew.cell? ⟨w2.heap.size, 0, none⟩ = some (.int .u8 (z : Int))) := Lib.hid G0
  have C5 : Hid (w3.drew.cell? ⟨w2.heap.size, 1, none⟩ = some (.int .i64 (m : Int))) := Lib.hid G1
  refine wp_region_noPanic ?_
  go_region_with (first
    | (go_at_call 76; first
      | (have hh := bx1; (with_reducible refine (LX.out _).mono ?_); clear hh; rintro e wx2 ⟨rfl, bx2⟩)
      | ((with_reducible refine (LX.out _).mono ?_); rintro e wx1 ⟨rfl, bx1⟩; have c0' := cell_over C0.out bx1; have c1' := cell_over C1.out bx1; have c2' := cell_over C2.out bx1; have c3' := cell_over C3.out bx1; have c4' := cell_over C4.out bx1; have c5' := cell_over C5.out bx1))
    | (go_at_call 77; first
      | (have hh := bx1; (with_reducible refine (LY.out _).mono ?_); clear hh; rintro e wx2 ⟨rfl, bx2⟩)
      | ((with_reducible refine (LY.out _).mono ?_); rintro e wx1 ⟨rfl, bx1⟩; have c0' := cell_over C0.out bx1; have c1' := cell_over C1.out bx1; have c2' := cell_over C2.out bx1; have c3' := cell_over C3.out bx1; have c4' := cell_over C4.out bx1; have c5' := cell_over C5.out bx1)))
  all_goals (
    refine NoPanic.normal ?_
    have bb : Below w.heap.size w wx2 := b3.drew.trans ((bx1.mono z3).trans (bx2.mono (Nat.le_trans z3 bx1.size)))
    clear b3 bx1 bx2 D0 D1 D2 D3 G0 G1 c0' c1' c2' c3' c4' c5' C0 C1 C2 C3 C4 C5 LX LY
    go_wp2_with fail
    go_ret
    exact ElsE.two HV.out bb)

set_option maxRecDepth 100000 in
set_option maxHeartbeats 4000000 in
theorem point_acc_up_1 (c : Nat) (o : Opt) (w : World) (h1 : 192 ≤ c) (h2 : c ≤ 221) (h3 : c ≠ 198) (h4 : c ≠ 230) (a m : Nat) (ha : accL.getD (c - 192) (0, 0) = (a, m)) (h0 : a = 0) :
    Calls Tryd.prog 57 #[.int .i64 (c : Int), optV o] w (ElsE w (pointE c o)) := by
  have hl : letB c = false := by simp [letB]; omega
  have hacc : accOf c = (a, m) := by
    unfold accOf
    rw [if_neg (by omega), ha]
  have hv : pointE c o = [baseE (65536 + c)] := by
    unfold pointE
    rw [if_neg (by omega), if_neg (by simp [digB]; omega), if_neg (by rw [hl]; simp), if_neg (by omega), if_neg (by omega), if_neg (by omega), if_neg (by omega), if_neg (by omega), if_neg (by omega), if_pos (by omega), hacc]
    exact if_pos h0
  clear hacc
  have hs := acc_small (c - 192) (by omega)
  rw [ha] at hs
  obtain ⟨q1, q2⟩ := acc_get (c - 192) (by omega) a m ha
  have HL : Hid (letB c = false) := Lib.hid hl
  clear hl
  obtain ⟨st, num, ign, up⟩ := o
  show Calls Tryd.prog 57 #[.int .i64 (c : Int), .agg #[.int .i64 st, .bool num, .bool ign, .bool up]] w (ElsE w (pointE c ⟨st, num, ign, up⟩))
  have T0 : decide ((c : Int) < 32) = false := by simp; omega
  have T1 : decide (127 ≤ (c : Int)) = true := by simp; omega
  have T2 : decide ((c : Int) ≤ 159) = false := by simp; omega
  have T3 : ((c : Int) == 173) = false := by simp; omega
  have T4 : decide (48 ≤ (c : Int)) = true := by simp; omega
  have T5 : decide ((c : Int) ≤ 57) = false := by simp; omega
  have T6 : decide ((c : Int) < 127) = false := by simp; omega
  have T7 : decide (768 ≤ (c : Int)) = false := by simp; omega
  have T8 : decide ((c : Int) ≤ 879) = true := by simp; omega
  have T9 : ((c : Int) == 198) = false := by simp; omega
  have T10 : ((c : Int) == 230) = false := by simp; omega
  have T11 : ((c : Int) == 223) = false := by simp; omega
  have T12 : ((c : Int) == 255) = false := by simp; omega
  have T13 : decide (192 ≤ (c : Int)) = true := by simp; omega
  have T14 : decide ((c : Int) ≤ 253) = true := by simp; omega
  have T15 : ((c : Int) != 222) = true := by simp; omega
  have T16 : decide (224 ≤ (c : Int)) = false := by simp; omega
  have T17 : ((a : Int) != 0) = false := by simp; omega
  obtain ⟨k, hk⟩ : ∃ k, k = c - 192 := ⟨_, rfl⟩
  rw [← hk] at q1 q2
  have e2 : IntKind.i64.wrap ((c : Int) - 192) = (k : Int) := by rw [IntWalk.i64_in _ (by omega)]; omega
  have k1 : k < 30 := by omega
  have k2 : (k : Int) < 30 := by omega
  have Q1 := Lib.hid q1
  have Q2 := Lib.hid q2
  obtain ⟨V, hVV⟩ : ∃ V, V = accV := ⟨_, rfl⟩
  have HI : Hid ((Tryd.prog.info? 112).map (·.size) = some V.size) := Lib.hid (by rw [hVV]; exact info112)
  have HS : Hid (V.size = 60) := Lib.hid (by rw [hVV]; kernel_rfl)
  have HO : Hid (V.all (·.oneCell') = true) := Lib.hid (by rw [hVV]; exact one112)
  have LL := Lib.hid letters_lib
  rw [← hVV] at LL Q1 Q2
  have e5 : IntKind.i64.wrap (65536 + (c : Int)) = ((65536 + c : Nat) : Int) := by rw [IntWalk.i64_in _ (by omega)]; omega
  have e6 : IntKind.i64.wrap (c : Int) = (c : Int) := IntWalk.i64_in _ (by omega)
  obtain ⟨x, hx⟩ : ∃ x, x = 65536 + c := ⟨_, rfl⟩
  rw [← hx] at e5 hv
  have HV := Lib.hid hv
  subst h0
  clear hv hx h1 h2 h3 h4 ha hs hk q1 q2 hVV
  go_enter Tryd.func57, Tryd.ntmps57
  go_wp2_with fail
  refine (isLetter_lib c _).mono ?_
  rw [HL.out]
  rintro e w1 ⟨rfl, rfl⟩
  go_wp2_with fail
  have B0 := Box.start w st num ign up
  have b0 : Below w.heap.size w (w.alloc (.cells #[.int .i64 st, .bool num, .bool ign, .bool up] 23)) := (Below.refl w.heap.size w).alloc (Nat.le_refl _) _
  have z0 : w.heap.size < (w.alloc (.cells #[.int .i64 st, .bool num, .bool ign, .bool up] 23)).heap.size := by simp
  obtain ⟨w0, hw0⟩ : ∃ w0, w0 = w.alloc (.cells #[.int .i64 st, .bool num, .bool ign, .bool up] 23) := ⟨_, rfl⟩
  rw [← hw0] at B0 b0 z0 ⊢
  clear hw0
  refine (LL.out _).mono ?_
  rintro e w1 ⟨rfl, b1⟩
  have B1 := B0.over b1
  have b1' : Below w.heap.size w w1 := b0.trans (b1.mono b0.size)
  have z1 : w.heap.size < w1.heap.size := Nat.lt_of_lt_of_le z0 b1.size
  clear B0 b0 z0 b1
  go_wp2_with (refine wpList_store_new rfl 112 _ _ rfl V rfl rfl 112 _ HI.out (by rw [HS.out]; kernel_rfl) HO.out ?_; intro w2 F2 b2 z2; obtain ⟨d0, d1, d2, d3⟩ := B1.over b2; have f0 := (blk_cell F2 (k * 2)).trans Q1.out; have f1 := (blk_cell F2 (k * 2 + 1)).trans Q2.out; clear F2)
  have b2' : Below w.heap.size w w2 := b1'.trans (b2.mono (Nat.le_of_lt z1))
  refine (base_lib x _).mono ?_
  rw [show elV (baseE x) = .agg #[.int .i64 (x : Int), .int .i64 32, .int .i64 2] from rfl]
  rintro e w4 ⟨rfl, b4⟩
  have bb : Below w.heap.size w w4 := (b2'.alloc (Nat.le_of_lt (Nat.lt_trans z1 z2)) _).trans (b4.mono (by simp; omega))
  clear b4 b2' b2 b1'
  go_wp2_with fail
  go_ret
  exact ElsE.one HV.out bb

end Go.Proofs.YtknnjnginmkblaaDoor
