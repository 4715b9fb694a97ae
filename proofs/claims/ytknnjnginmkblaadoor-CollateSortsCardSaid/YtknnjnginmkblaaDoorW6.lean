/- Walks: the elements of one code point, the plain cases. -/
import Derived.Test.YtknnjnginmkblaaDoorW5
namespace Go.Proofs.YtknnjnginmkblaaDoor
open Go.RowKit

theorem Sl.fresh {α : Type} {enc : α → List Value} {sz : Nat} (he : ∀ x, (enc x).length = sz) (w : World) (E : TypeId) (l : List α) (hl : l.length ≤ maxLen) :
    Sl enc sz (w.alloc (.cells (l.flatMap enc).toArray E)) (w.heap.size + 1) (.slice (some ⟨w.heap.size, 0, none⟩) l.length l.length) l :=
  ⟨_, _, rfl, Nat.le_refl _, hl, fun _ => ⟨w.heap.size, 0, rfl, by omega, fun i x hx j u hu => by rw [Nat.zero_add]; exact cells_new w _ E _ u (flatMap_get he l i x hx j u hu)⟩⟩
def encE (x : El) : List Value := [.int .i64 (x.p : Int), .int .i64 (x.s : Int), .int .i64 (x.t : Int)]
theorem encE_length (x : El) : (encE x).length = 3 := rfl
/-- What a function that makes elements answers. -/
def ElsE (w : World) (l : List El) (e : Ending) (w' : World) : Prop := ∃ v, e = .returned v ∧ Sl encE 3 w' w'.heap.size v l ∧ Below w.heap.size w w'
theorem ElsE.nil {w w' : World} {l : List El} (h : l = []) (hb : Below w.heap.size w w') : ElsE w l (.returned (.slice none 0 0)) w' := by rw [h]; exact ⟨_, rfl, Sl.nil _ _, hb⟩
theorem ElsE.one {w w' : World} {l : List El} {x : El} {E : TypeId} (h : l = [x]) (hb : Below w.heap.size w w') :
    ElsE w l (.returned (.slice (some ⟨w'.heap.size, 0, none⟩) 1 1)) (w'.alloc (.cells #[.int .i64 (x.p : Int), .int .i64 (x.s : Int), .int .i64 (x.t : Int)] E)) := by
  rw [h]
  refine ⟨_, rfl, ?_, hb.alloc hb.size _⟩
  have := Sl.fresh encE_length w' E [x] (by simp [maxLen])
  rw [show (w'.alloc (.cells #[.int .i64 (x.p : Int), .int .i64 (x.s : Int), .int .i64 (x.t : Int)] E)).heap.size = w'.heap.size + 1 from by simp]
  exact this
theorem ElsE.two {w w' : World} {l : List El} {x y : El} {E : TypeId} (h : l = [x, y]) (hb : Below w.heap.size w w') :
    ElsE w l (.returned (.slice (some ⟨w'.heap.size, 0, none⟩) 2 2)) (w'.alloc (.cells #[.int .i64 (x.p : Int), .int .i64 (x.s : Int), .int .i64 (x.t : Int), .int .i64 (y.p : Int), .int .i64 (y.s : Int), .int .i64 (y.t : Int)] E)) := by
  rw [h]
  refine ⟨_, rfl, ?_, hb.alloc hb.size _⟩
  have := Sl.fresh encE_length w' E [x, y] (by simp [maxLen])
  rw [show (w'.alloc (.cells #[.int .i64 (x.p : Int), .int .i64 (x.s : Int), .int .i64 (x.t : Int), .int .i64 (y.p : Int), .int .i64 (y.s : Int), .int .i64 (y.t : Int)] E)).heap.size = w'.heap.size + 1 from by simp]
  exact this

section
variable (c st : Nat)
set_option maxRecDepth 100000 in
set_option maxHeartbeats 4000000 in
theorem point_nil (c : Nat) (o : Opt) (w : World) (h : c < 32 ∨ 127 ≤ c ∧ c ≤ 159 ∨ c = 173) :
    Calls Tryd.prog 57 #[.int .i64 (c : Int), optV o] w (ElsE w (pointE c o)) := by
  have HV : Hid (pointE c o = []) := Lib.hid (by unfold pointE; rw [if_pos h])
  obtain ⟨st, num, ign, up⟩ := o
  show Calls Tryd.prog 57 #[.int .i64 (c : Int), .agg #[.int .i64 st, .bool num, .bool ign, .bool up]] w (ElsE w (pointE c ⟨st, num, ign, up⟩))
  rcases h with h | ⟨h, h'⟩ | h
  all_goals
    go_enter Tryd.func57, Tryd.ntmps57
    go_wp2_with fail
    go_ret
    exact ElsE.nil HV.out ((Below.refl _ _).alloc (Nat.le_refl _) _)
end

set_option maxRecDepth 100000 in
set_option maxHeartbeats 4000000 in
theorem point_digit (c : Nat) (o : Opt) (w : World) (hc : c ≤ 1114111) (h1 : 48 ≤ c) (h2 : c ≤ 57) :
    Calls Tryd.prog 57 #[.int .i64 (c : Int), optV o] w (ElsE w (pointE c o)) := by
  have hv : pointE c o = [baseE (512 + c - 48)] := by unfold pointE; rw [if_neg (by omega), if_pos (by simp [digB]; omega)]
  obtain ⟨st, num, ign, up⟩ := o
  show Calls Tryd.prog 57 #[.int .i64 (c : Int), .agg #[.int .i64 st, .bool num, .bool ign, .bool up]] w (ElsE w (pointE c ⟨st, num, ign, up⟩))
  have T0 : decide ((c : Int) < 32) = false := by simp; omega
  have T1 : decide (127 ≤ (c : Int)) = false := by simp; omega
  have T2 : decide ((c : Int) ≤ 159) = true := by simp; omega
  have T3 : ((c : Int) == 173) = false := by simp; omega
  have T4 : decide (48 ≤ (c : Int)) = true := by simp; omega
  have T5 : decide ((c : Int) ≤ 57) = true := by simp; omega
  have T6 : decide ((c : Int) < 127) = true := by simp; omega
  have T7 : decide (768 ≤ (c : Int)) = false := by simp; omega
  have T8 : decide ((c : Int) ≤ 879) = true := by simp; omega
  have T9 : ((c : Int) == 198) = false := by simp; omega
  have T10 : ((c : Int) == 230) = false := by simp; omega
  have T11 : ((c : Int) == 223) = false := by simp; omega
  have T12 : ((c : Int) == 255) = false := by simp; omega
  have T13 : decide (192 ≤ (c : Int)) = false := by simp; omega
  have T14 : decide ((c : Int) ≤ 253) = true := by simp; omega
  have T15 : ((c : Int) != 222) = true := by simp; omega
  have e1 : IntKind.i64.wrap (512 + (c : Int)) = (512 + (c : Int)) := by rw [IntWalk.i64_in _ (by omega)]
  have e2 : IntKind.i64.wrap (512 + (c : Int) - 48) = ((512 + c - 48 : Nat) : Int) := by rw [IntWalk.i64_in _ (by omega)]; omega
  obtain ⟨x, hx⟩ : ∃ x, x = 512 + c - 48 := ⟨_, rfl⟩
  rw [← hx] at e2 hv
  have HV := Lib.hid hv
  clear hv hx h1 h2 hc
  go_enter Tryd.func57, Tryd.ntmps57
  go_wp2_with fail
  refine (base_lib x _).mono ?_
  rw [show elV (baseE x) = .agg #[.int .i64 (x : Int), .int .i64 32, .int .i64 2] from rfl]
  rintro e w1 ⟨rfl, b1⟩
  have bb : Below w.heap.size w w1 := ((Below.refl w.heap.size w).alloc (Nat.le_refl _) _).trans (b1.mono (by simp))
  clear b1
  go_wp2_with fail
  go_ret
  exact ElsE.one HV.out bb
set_option maxRecDepth 100000 in
set_option maxHeartbeats 4000000 in
theorem point_other_a_true (c : Nat) (o : Opt) (w : World) (hc : c ≤ 1114111) (h1 : 32 ≤ c) (h2 : c ≤ 47) (h3 : letB c = false) (h4 : o.ign = true) :
    Calls Tryd.prog 57 #[.int .i64 (c : Int), optV o] w (ElsE w (pointE c o)) := by
  have hv : pointE c o = [] := by
    unfold pointE
    rw [if_neg (by omega), if_neg (by simp [digB]; omega), if_neg (by rw [h3]; simp), if_pos (by omega), h4]
    rfl
  have HL : Hid (letB c = false) := Lib.hid h3
  clear h3
  obtain ⟨st, num, ign, up⟩ := o
  show Calls Tryd.prog 57 #[.int .i64 (c : Int), .agg #[.int .i64 st, .bool num, .bool ign, .bool up]] w (ElsE w (pointE c ⟨st, num, ign, up⟩))
  have hg : ign = true := h4
  subst hg
  clear h4
  have T0 : decide ((c : Int) < 32) = false := by simp; omega
  have T1 : decide (127 ≤ (c : Int)) = false := by simp; omega
  have T2 : decide ((c : Int) ≤ 159) = true := by simp; omega
  have T3 : ((c : Int) == 173) = false := by simp; omega
  have T4 : decide (48 ≤ (c : Int)) = false := by simp; omega
  have T5 : decide ((c : Int) ≤ 57) = true := by simp; omega
  have T6 : decide ((c : Int) < 127) = true := by simp; omega
  have T7 : decide (768 ≤ (c : Int)) = false := by simp; omega
  have T8 : decide ((c : Int) ≤ 879) = true := by simp; omega
  have T9 : ((c : Int) == 198) = false := by simp; omega
  have T10 : ((c : Int) == 230) = false := by simp; omega
  have T11 : ((c : Int) == 223) = false := by simp; omega
  have T12 : ((c : Int) == 255) = false := by simp; omega
  have T13 : decide (192 ≤ (c : Int)) = false := by simp; omega
  have T14 : decide ((c : Int) ≤ 253) = true := by simp; omega
  have T15 : ((c : Int) != 222) = true := by simp; omega
  have HV := Lib.hid hv
  clear hv h1 h2 hc
  go_enter Tryd.func57, Tryd.ntmps57
  go_wp2_with fail
  refine (isLetter_lib c _).mono ?_
  rw [HL.out]
  rintro e w1 ⟨rfl, rfl⟩
  go_wp2_with fail
  go_ret
  exact ElsE.nil HV.out ((Below.refl _ _).alloc (Nat.le_refl _) _)
set_option maxRecDepth 100000 in
set_option maxHeartbeats 4000000 in
theorem point_other_b_true (c : Nat) (o : Opt) (w : World) (hc : c ≤ 1114111) (h1 : 58 ≤ c) (h2 : c ≤ 126) (h3 : letB c = false) (h4 : o.ign = true) :
    Calls Tryd.prog 57 #[.int .i64 (c : Int), optV o] w (ElsE w (pointE c o)) := by
  have hv : pointE c o = [] := by
    unfold pointE
    rw [if_neg (by omega), if_neg (by simp [digB]; omega), if_neg (by rw [h3]; simp), if_pos (by omega), h4]
    rfl
  have HL : Hid (letB c = false) := Lib.hid h3
  clear h3
  obtain ⟨st, num, ign, up⟩ := o
  show Calls Tryd.prog 57 #[.int .i64 (c : Int), .agg #[.int .i64 st, .bool num, .bool ign, .bool up]] w (ElsE w (pointE c ⟨st, num, ign, up⟩))
  have hg : ign = true := h4
  subst hg
  clear h4
  have T0 : decide ((c : Int) < 32) = false := by simp; omega
  have T1 : decide (127 ≤ (c : Int)) = false := by simp; omega
  have T2 : decide ((c : Int) ≤ 159) = true := by simp; omega
  have T3 : ((c : Int) == 173) = false := by simp; omega
  have T4 : decide (48 ≤ (c : Int)) = true := by simp; omega
  have T5 : decide ((c : Int) ≤ 57) = false := by simp; omega
  have T6 : decide ((c : Int) < 127) = true := by simp; omega
  have T7 : decide (768 ≤ (c : Int)) = false := by simp; omega
  have T8 : decide ((c : Int) ≤ 879) = true := by simp; omega
  have T9 : ((c : Int) == 198) = false := by simp; omega
  have T10 : ((c : Int) == 230) = false := by simp; omega
  have T11 : ((c : Int) == 223) = false := by simp; omega
  have T12 : ((c : Int) == 255) = false := by simp; omega
  have T13 : decide (192 ≤ (c : Int)) = false := by simp; omega
  have T14 : decide ((c : Int) ≤ 253) = true := by simp; omega
  have T15 : ((c : Int) != 222) = true := by simp; omega
  have HV := Lib.hid hv
  clear hv h1 h2 hc
  go_enter Tryd.func57, Tryd.ntmps57
  go_wp2_with fail
  refine (isLetter_lib c _).mono ?_
  rw [HL.out]
  rintro e w1 ⟨rfl, rfl⟩
  go_wp2_with fail
  go_ret
  exact ElsE.nil HV.out ((Below.refl _ _).alloc (Nat.le_refl _) _)
set_option maxRecDepth 100000 in
set_option maxHeartbeats 4000000 in
theorem point_other_a_false (c : Nat) (o : Opt) (w : World) (hc : c ≤ 1114111) (h1 : 32 ≤ c) (h2 : c ≤ 47) (h3 : letB c = false) (h4 : o.ign = false) :
    Calls Tryd.prog 57 #[.int .i64 (c : Int), optV o] w (ElsE w (pointE c o)) := by
  have hv : pointE c o = [baseE (256 + c)] := by
    unfold pointE
    rw [if_neg (by omega), if_neg (by simp [digB]; omega), if_neg (by rw [h3]; simp), if_pos (by omega), h4]
    rfl
  have HL : Hid (letB c = false) := Lib.hid h3
  clear h3
  obtain ⟨st, num, ign, up⟩ := o
  show Calls Tryd.prog 57 #[.int .i64 (c : Int), .agg #[.int .i64 st, .bool num, .bool ign, .bool up]] w (ElsE w (pointE c ⟨st, num, ign, up⟩))
  have hg : ign = false := h4
  subst hg
  clear h4
  have T0 : decide ((c : Int) < 32) = false := by simp; omega
  have T1 : decide (127 ≤ (c : Int)) = false := by simp; omega
  have T2 : decide ((c : Int) ≤ 159) = true := by simp; omega
  have T3 : ((c : Int) == 173) = false := by simp; omega
  have T4 : decide (48 ≤ (c : Int)) = false := by simp; omega
  have T5 : decide ((c : Int) ≤ 57) = true := by simp; omega
  have T6 : decide ((c : Int) < 127) = true := by simp; omega
  have T7 : decide (768 ≤ (c : Int)) = false := by simp; omega
  have T8 : decide ((c : Int) ≤ 879) = true := by simp; omega
  have T9 : ((c : Int) == 198) = false := by simp; omega
  have T10 : ((c : Int) == 230) = false := by simp; omega
  have T11 : ((c : Int) == 223) = false := by simp; omega
  have T12 : ((c : Int) == 255) = false := by simp; omega
  have T13 : decide (192 ≤ (c : Int)) = false := by simp; omega
  have T14 : decide ((c : Int) ≤ 253) = true := by simp; omega
  have T15 : ((c : Int) != 222) = true := by simp; omega
  have e1 : IntKind.i64.wrap (256 + (c : Int)) = ((256 + c : Nat) : Int) := by rw [IntWalk.i64_in _ (by omega)]; omega
  obtain ⟨x, hx⟩ : ∃ x, x = 256 + c := ⟨_, rfl⟩
  rw [← hx] at e1 hv
  have HV := Lib.hid hv
  clear hv hx h1 h2 hc
  go_enter Tryd.func57, Tryd.ntmps57
  go_wp2_with fail
  refine (isLetter_lib c _).mono ?_
  rw [HL.out]
  rintro e w1 ⟨rfl, rfl⟩
  go_wp2_with fail
  refine (base_lib x _).mono ?_
  rw [show elV (baseE x) = .agg #[.int .i64 (x : Int), .int .i64 32, .int .i64 2] from rfl]
  rintro e w1 ⟨rfl, b1⟩
  have bb : Below w.heap.size w w1 := ((Below.refl w.heap.size w).alloc (Nat.le_refl _) _).trans (b1.mono (by simp))
  clear b1
  go_wp2_with fail
  go_ret
  exact ElsE.one HV.out bb
set_option maxRecDepth 100000 in
set_option maxHeartbeats 4000000 in
theorem point_other_b_false (c : Nat) (o : Opt) (w : World) (hc : c ≤ 1114111) (h1 : 58 ≤ c) (h2 : c ≤ 126) (h3 : letB c = false) (h4 : o.ign = false) :
    Calls Tryd.prog 57 #[.int .i64 (c : Int), optV o] w (ElsE w (pointE c o)) := by
  have hv : pointE c o = [baseE (256 + c)] := by
    unfold pointE
    rw [if_neg (by omega), if_neg (by simp [digB]; omega), if_neg (by rw [h3]; simp), if_pos (by omega), h4]
    rfl
  have HL : Hid (letB c = false) := Lib.hid h3
  clear h3
  obtain ⟨st, num, ign, up⟩ := o
  show Calls Tryd.prog 57 #[.int .i64 (c : Int), .agg #[.int .i64 st, .bool num, .bool ign, .bool up]] w (ElsE w (pointE c ⟨st, num, ign, up⟩))
  have hg : ign = false := h4
  subst hg
  clear h4
  have T0 : decide ((c : Int) < 32) = false := by simp; omega
  have T1 : decide (127 ≤ (c : Int)) = false := by simp; omega
  have T2 : decide ((c : Int) ≤ 159) = true := by simp; omega
  have T3 : ((c : Int) == 173) = false := by simp; omega
  have T4 : decide (48 ≤ (c : Int)) = true := by simp; omega
  have T5 : decide ((c : Int) ≤ 57) = false := by simp; omega
  have T6 : decide ((c : Int) < 127) = true := by simp; omega
  have T7 : decide (768 ≤ (c : Int)) = false := by simp; omega
  have T8 : decide ((c : Int) ≤ 879) = true := by simp; omega
  have T9 : ((c : Int) == 198) = false := by simp; omega
  have T10 : ((c : Int) == 230) = false := by simp; omega
  have T11 : ((c : Int) == 223) = false := by simp; omega
  have T12 : ((c : Int) == 255) = false := by simp; omega
  have T13 : decide (192 ≤ (c : Int)) = false := by simp; omega
  have T14 : decide ((c : Int) ≤ 253) = true := by simp; omega
  have T15 : ((c : Int) != 222) = true := by simp; omega
  have e1 : IntKind.i64.wrap (256 + (c : Int)) = ((256 + c : Nat) : Int) := by rw [IntWalk.i64_in _ (by omega)]; omega
  obtain ⟨x, hx⟩ : ∃ x, x = 256 + c := ⟨_, rfl⟩
  rw [← hx] at e1 hv
  have HV := Lib.hid hv
  clear hv hx h1 h2 hc
  go_enter Tryd.func57, Tryd.ntmps57
  go_wp2_with fail
  refine (isLetter_lib c _).mono ?_
  rw [HL.out]
  rintro e w1 ⟨rfl, rfl⟩
  go_wp2_with fail
  refine (base_lib x _).mono ?_
  rw [show elV (baseE x) = .agg #[.int .i64 (x : Int), .int .i64 32, .int .i64 2] from rfl]
  rintro e w1 ⟨rfl, b1⟩
  have bb : Below w.heap.size w w1 := ((Below.refl w.heap.size w).alloc (Nat.le_refl _) _).trans (b1.mono (by simp))
  clear b1
  go_wp2_with fail
  go_ret
  exact ElsE.one HV.out bb
set_option maxRecDepth 100000 in
set_option maxHeartbeats 4000000 in
theorem point_letter_up (c : Nat) (o : Opt) (w : World) (hc : c ≤ 1114111) (h1 : 65 ≤ c) (h2 : c ≤ 90) :
    Calls Tryd.prog 57 #[.int .i64 (c : Int), optV o] w (ElsE w (pointE c o)) := by
  have h3 : letB c = true := by simp [letB]; omega
  have hv : pointE c o = [letterE c o.upper] := by unfold pointE; rw [if_neg (by omega), if_neg (by simp [digB]; omega), if_pos h3]
  have HL : Hid (letB c = true) := Lib.hid h3
  clear h3
  obtain ⟨st, num, ign, up⟩ := o
  show Calls Tryd.prog 57 #[.int .i64 (c : Int), .agg #[.int .i64 st, .bool num, .bool ign, .bool up]] w (ElsE w (pointE c ⟨st, num, ign, up⟩))
  have T0 : decide ((c : Int) < 32) = false := by simp; omega
  have T1 : decide (127 ≤ (c : Int)) = false := by simp; omega
  have T2 : decide ((c : Int) ≤ 159) = true := by simp; omega
  have T3 : ((c : Int) == 173) = false := by simp; omega
  have T4 : decide (48 ≤ (c : Int)) = true := by simp; omega
  have T5 : decide ((c : Int) ≤ 57) = false := by simp; omega
  have T6 : decide ((c : Int) < 127) = true := by simp; omega
  have T7 : decide (768 ≤ (c : Int)) = false := by simp; omega
  have T8 : decide ((c : Int) ≤ 879) = true := by simp; omega
  have T9 : ((c : Int) == 198) = false := by simp; omega
  have T10 : ((c : Int) == 230) = false := by simp; omega
  have T11 : ((c : Int) == 223) = false := by simp; omega
  have T12 : ((c : Int) == 255) = false := by simp; omega
  have T13 : decide (192 ≤ (c : Int)) = false := by simp; omega
  have T14 : decide ((c : Int) ≤ 253) = true := by simp; omega
  have T15 : ((c : Int) != 222) = true := by simp; omega
  obtain ⟨x, hx⟩ : ∃ x, x = letterE c up := ⟨_, rfl⟩
  have HX : Hid (x = letterE c up) := Lib.hid hx
  have HV : Hid (pointE c ⟨st, num, ign, up⟩ = [x]) := Lib.hid (by rw [hv, hx])
  clear hv hx h1 h2 hc
  go_enter Tryd.func57, Tryd.ntmps57
  go_wp2_with fail
  refine (isLetter_lib c _).mono ?_
  rw [HL.out]
  rintro e w1 ⟨rfl, rfl⟩
  go_wp2_with fail
  refine (letter_lib c ⟨st, num, ign, up⟩ _ HL.out).mono ?_
  show ∀ e w', e = Ending.returned (elV (letterE c up)) ∧ _ → _
  rw [← HX.out, show elV x = .agg #[.int .i64 (x.p : Int), .int .i64 (x.s : Int), .int .i64 (x.t : Int)] from rfl]
  rintro e w1 ⟨rfl, b1⟩
  have bb : Below w.heap.size w w1 := ((Below.refl w.heap.size w).alloc (Nat.le_refl _) _).trans (b1.mono (by simp))
  clear b1
  go_wp2_with fail
  go_ret
  exact ElsE.one HV.out bb
set_option maxRecDepth 100000 in
set_option maxHeartbeats 4000000 in
theorem point_letter_low (c : Nat) (o : Opt) (w : World) (hc : c ≤ 1114111) (h1 : 97 ≤ c) (h2 : c ≤ 122) :
    Calls Tryd.prog 57 #[.int .i64 (c : Int), optV o] w (ElsE w (pointE c o)) := by
  have h3 : letB c = true := by simp [letB]; omega
  have hv : pointE c o = [letterE c o.upper] := by unfold pointE; rw [if_neg (by omega), if_neg (by simp [digB]; omega), if_pos h3]
  have HL : Hid (letB c = true) := Lib.hid h3
  clear h3
  obtain ⟨st, num, ign, up⟩ := o
  show Calls Tryd.prog 57 #[.int .i64 (c : Int), .agg #[.int .i64 st, .bool num, .bool ign, .bool up]] w (ElsE w (pointE c ⟨st, num, ign, up⟩))
  have T0 : decide ((c : Int) < 32) = false := by simp; omega
  have T1 : decide (127 ≤ (c : Int)) = false := by simp; omega
  have T2 : decide ((c : Int) ≤ 159) = true := by simp; omega
  have T3 : ((c : Int) == 173) = false := by simp; omega
  have T4 : decide (48 ≤ (c : Int)) = true := by simp; omega
  have T5 : decide ((c : Int) ≤ 57) = false := by simp; omega
  have T6 : decide ((c : Int) < 127) = true := by simp; omega
  have T7 : decide (768 ≤ (c : Int)) = false := by simp; omega
  have T8 : decide ((c : Int) ≤ 879) = true := by simp; omega
  have T9 : ((c : Int) == 198) = false := by simp; omega
  have T10 : ((c : Int) == 230) = false := by simp; omega
  have T11 : ((c : Int) == 223) = false := by simp; omega
  have T12 : ((c : Int) == 255) = false := by simp; omega
  have T13 : decide (192 ≤ (c : Int)) = false := by simp; omega
  have T14 : decide ((c : Int) ≤ 253) = true := by simp; omega
  have T15 : ((c : Int) != 222) = true := by simp; omega
  obtain ⟨x, hx⟩ : ∃ x, x = letterE c up := ⟨_, rfl⟩
  have HX : Hid (x = letterE c up) := Lib.hid hx
  have HV : Hid (pointE c ⟨st, num, ign, up⟩ = [x]) := Lib.hid (by rw [hv, hx])
  clear hv hx h1 h2 hc
  go_enter Tryd.func57, Tryd.ntmps57
  go_wp2_with fail
  refine (isLetter_lib c _).mono ?_
  rw [HL.out]
  rintro e w1 ⟨rfl, rfl⟩
  go_wp2_with fail
  refine (letter_lib c ⟨st, num, ign, up⟩ _ HL.out).mono ?_
  show ∀ e w', e = Ending.returned (elV (letterE c up)) ∧ _ → _
  rw [← HX.out, show elV x = .agg #[.int .i64 (x.p : Int), .int .i64 (x.s : Int), .int .i64 (x.t : Int)] from rfl]
  rintro e w1 ⟨rfl, b1⟩
  have bb : Below w.heap.size w w1 := ((Below.refl w.heap.size w).alloc (Nat.le_refl _) _).trans (b1.mono (by simp))
  clear b1
  go_wp2_with fail
  go_ret
  exact ElsE.one HV.out bb
set_option maxRecDepth 100000 in
set_option maxHeartbeats 4000000 in
theorem point_mark (c : Nat) (o : Opt) (w : World) (hc : c ≤ 1114111) (h1 : 768 ≤ c) (h2 : c ≤ 879) :
    Calls Tryd.prog 57 #[.int .i64 (c : Int), optV o] w (ElsE w (pointE c o)) := by
  have h3 : letB c = false := by simp [letB]; omega
  have hv : pointE c o = [markE c] := by unfold pointE; rw [if_neg (by omega), if_neg (by simp [digB]; omega), if_neg (by rw [h3]; simp), if_neg (by omega), if_pos ⟨h1, h2⟩]
  have HL : Hid (letB c = false) := Lib.hid h3
  clear h3
  obtain ⟨st, num, ign, up⟩ := o
  show Calls Tryd.prog 57 #[.int .i64 (c : Int), .agg #[.int .i64 st, .bool num, .bool ign, .bool up]] w (ElsE w (pointE c ⟨st, num, ign, up⟩))
  have T0 : decide ((c : Int) < 32) = false := by simp; omega
  have T1 : decide (127 ≤ (c : Int)) = true := by simp; omega
  have T2 : decide ((c : Int) ≤ 159) = false := by simp; omega
  have T3 : ((c : Int) == 173) = false := by simp; omega
  have T4 : decide (48 ≤ (c : Int)) = true := by simp; omega
  have T5 : decide ((c : Int) ≤ 57) = false := by simp; omega
  have T6 : decide ((c : Int) < 127) = false := by simp; omega
  have T7 : decide (768 ≤ (c : Int)) = true := by simp; omega
  have T8 : decide ((c : Int) ≤ 879) = true := by simp; omega
  have T9 : ((c : Int) == 198) = false := by simp; omega
  have T10 : ((c : Int) == 230) = false := by simp; omega
  have T11 : ((c : Int) == 223) = false := by simp; omega
  have T12 : ((c : Int) == 255) = false := by simp; omega
  have T13 : decide (192 ≤ (c : Int)) = true := by simp; omega
  have T14 : decide ((c : Int) ≤ 253) = false := by simp; omega
  have T15 : ((c : Int) != 222) = true := by simp; omega
  obtain ⟨x, hx⟩ : ∃ x, x = markE c := ⟨_, rfl⟩
  rw [← hx] at hv
  have HM := mark_lib c
  rw [← hx] at HM
  have HV := Lib.hid hv
  have HM2 := fun w => HM w h1 h2
  clear hv hx h1 h2 hc HM
  go_enter Tryd.func57, Tryd.ntmps57
  go_wp2_with fail
  refine (isLetter_lib c _).mono ?_
  rw [HL.out]
  rintro e w1 ⟨rfl, rfl⟩
  go_wp2_with fail
  refine (HM2 _).mono ?_
  rw [show elV x = .agg #[.int .i64 (x.p : Int), .int .i64 (x.s : Int), .int .i64 (x.t : Int)] from rfl]
  rintro e w1 ⟨rfl, b1⟩
  have bb : Below w.heap.size w w1 := ((Below.refl w.heap.size w).alloc (Nat.le_refl _) _).trans (b1.mono (by simp))
  clear b1
  go_wp2_with fail
  go_ret
  exact ElsE.one HV.out bb
set_option maxRecDepth 100000 in
set_option maxHeartbeats 4000000 in
theorem point_rest_a (c : Nat) (o : Opt) (w : World) (hc : c ≤ 1114111) (h1 : 160 ≤ c) (h2 : c ≤ 172) :
    Calls Tryd.prog 57 #[.int .i64 (c : Int), optV o] w (ElsE w (pointE c o)) := by
  have h3 : letB c = false := by simp [letB]; omega
  have hv : pointE c o = [baseE (65536 + c)] := by
    unfold pointE
    rw [if_neg (by omega), if_neg (by simp [digB]; omega), if_neg (by rw [h3]; simp), if_neg (by omega), if_neg (by omega), if_neg (by omega), if_neg (by omega), if_neg (by omega), if_neg (by omega), if_neg (by omega)]
  have HL : Hid (letB c = false) := Lib.hid h3
  clear h3
  obtain ⟨st, num, ign, up⟩ := o
  show Calls Tryd.prog 57 #[.int .i64 (c : Int), .agg #[.int .i64 st, .bool num, .bool ign, .bool up]] w (ElsE w (pointE c ⟨st, num, ign, up⟩))
  have T0 : decide ((c : Int) < 32) = false := by simp; omega
  have T1 : decide (127 ≤ (c : Int)) = true := by simp; omega
  have T2 : decide ((c : Int) ≤ 159) = false := by simp; omega
  have T3 : ((c : Int) == 173) = false := by simp; omega
  have T4 : decide (48 ≤ (c : Int)) = true := by simp; omega
  have T5 : decide ((c : Int) ≤ 57) = false := by simp; omega
  have T6 : decide ((c : Int) < 127) = false := by simp; omega
  have T7 : decide (768 ≤ (c : Int)) = false := by simp; omega
  have T8 : decide ((c : Int) ≤ 879) = true := by simp; omega
  have T9 : ((c : Int) == 198) = false := by simp; omega
  have T10 : ((c : Int) == 230) = false := by simp; omega
  have T11 : ((c : Int) == 223) = false := by simp; omega
  have T12 : ((c : Int) == 255) = false := by simp; omega
  have T13 : decide (192 ≤ (c : Int)) = false := by simp; omega
  have T14 : decide ((c : Int) ≤ 253) = true := by simp; omega
  have T15 : ((c : Int) != 222) = true := by simp; omega
  have e1 : IntKind.i64.wrap (65536 + (c : Int)) = ((65536 + c : Nat) : Int) := by rw [IntWalk.i64_in _ (by omega)]; omega
  obtain ⟨x, hx⟩ : ∃ x, x = 65536 + c := ⟨_, rfl⟩
  rw [← hx] at e1 hv
  have HV := Lib.hid hv
  clear hv hx h1 h2 hc
  go_enter Tryd.func57, Tryd.ntmps57
  go_wp2_with fail
  refine (isLetter_lib c _).mono ?_
  rw [HL.out]
  rintro e w1 ⟨rfl, rfl⟩
  go_wp2_with fail
  refine (base_lib x _).mono ?_
  rw [show elV (baseE x) = .agg #[.int .i64 (x : Int), .int .i64 32, .int .i64 2] from rfl]
  rintro e w1 ⟨rfl, b1⟩
  have bb : Below w.heap.size w w1 := ((Below.refl w.heap.size w).alloc (Nat.le_refl _) _).trans (b1.mono (by simp))
  clear b1
  go_wp2_with fail
  go_ret
  exact ElsE.one HV.out bb
set_option maxRecDepth 100000 in
set_option maxHeartbeats 4000000 in
theorem point_rest_b (c : Nat) (o : Opt) (w : World) (hc : c ≤ 1114111) (h1 : 174 ≤ c) (h2 : c ≤ 191) :
    Calls Tryd.prog 57 #[.int .i64 (c : Int), optV o] w (ElsE w (pointE c o)) := by
  have h3 : letB c = false := by simp [letB]; omega
  have hv : pointE c o = [baseE (65536 + c)] := by
    unfold pointE
    rw [if_neg (by omega), if_neg (by simp [digB]; omega), if_neg (by rw [h3]; simp), if_neg (by omega), if_neg (by omega), if_neg (by omega), if_neg (by omega), if_neg (by omega), if_neg (by omega), if_neg (by omega)]
  have HL : Hid (letB c = false) := Lib.hid h3
  clear h3
  obtain ⟨st, num, ign, up⟩ := o
  show Calls Tryd.prog 57 #[.int .i64 (c : Int), .agg #[.int .i64 st, .bool num, .bool ign, .bool up]] w (ElsE w (pointE c ⟨st, num, ign, up⟩))
  have T0 : decide ((c : Int) < 32) = false := by simp; omega
  have T1 : decide (127 ≤ (c : Int)) = true := by simp; omega
  have T2 : decide ((c : Int) ≤ 159) = false := by simp; omega
  have T3 : ((c : Int) == 173) = false := by simp; omega
  have T4 : decide (48 ≤ (c : Int)) = true := by simp; omega
  have T5 : decide ((c : Int) ≤ 57) = false := by simp; omega
  have T6 : decide ((c : Int) < 127) = false := by simp; omega
  have T7 : decide (768 ≤ (c : Int)) = false := by simp; omega
  have T8 : decide ((c : Int) ≤ 879) = true := by simp; omega
  have T9 : ((c : Int) == 198) = false := by simp; omega
  have T10 : ((c : Int) == 230) = false := by simp; omega
  have T11 : ((c : Int) == 223) = false := by simp; omega
  have T12 : ((c : Int) == 255) = false := by simp; omega
  have T13 : decide (192 ≤ (c : Int)) = false := by simp; omega
  have T14 : decide ((c : Int) ≤ 253) = true := by simp; omega
  have T15 : ((c : Int) != 222) = true := by simp; omega
  have e1 : IntKind.i64.wrap (65536 + (c : Int)) = ((65536 + c : Nat) : Int) := by rw [IntWalk.i64_in _ (by omega)]; omega
  obtain ⟨x, hx⟩ : ∃ x, x = 65536 + c := ⟨_, rfl⟩
  rw [← hx] at e1 hv
  have HV := Lib.hid hv
  clear hv hx h1 h2 hc
  go_enter Tryd.func57, Tryd.ntmps57
  go_wp2_with fail
  refine (isLetter_lib c _).mono ?_
  rw [HL.out]
  rintro e w1 ⟨rfl, rfl⟩
  go_wp2_with fail
  refine (base_lib x _).mono ?_
  rw [show elV (baseE x) = .agg #[.int .i64 (x : Int), .int .i64 32, .int .i64 2] from rfl]
  rintro e w1 ⟨rfl, b1⟩
  have bb : Below w.heap.size w w1 := ((Below.refl w.heap.size w).alloc (Nat.le_refl _) _).trans (b1.mono (by simp))
  clear b1
  go_wp2_with fail
  go_ret
  exact ElsE.one HV.out bb
set_option maxRecDepth 100000 in
set_option maxHeartbeats 4000000 in
theorem point_rest_c (c : Nat) (o : Opt) (w : World) (hc : c ≤ 1114111) (h1 : c = 222) (h2 : c = 222) :
    Calls Tryd.prog 57 #[.int .i64 (c : Int), optV o] w (ElsE w (pointE c o)) := by
  have h3 : letB c = false := by simp [letB]; omega
  have hv : pointE c o = [baseE (65536 + c)] := by
    unfold pointE
    rw [if_neg (by omega), if_neg (by simp [digB]; omega), if_neg (by rw [h3]; simp), if_neg (by omega), if_neg (by omega), if_neg (by omega), if_neg (by omega), if_neg (by omega), if_neg (by omega), if_neg (by omega)]
  have HL : Hid (letB c = false) := Lib.hid h3
  clear h3
  obtain ⟨st, num, ign, up⟩ := o
  show Calls Tryd.prog 57 #[.int .i64 (c : Int), .agg #[.int .i64 st, .bool num, .bool ign, .bool up]] w (ElsE w (pointE c ⟨st, num, ign, up⟩))
  have T0 : decide ((c : Int) < 32) = false := by simp; omega
  have T1 : decide (127 ≤ (c : Int)) = true := by simp; omega
  have T2 : decide ((c : Int) ≤ 159) = false := by simp; omega
  have T3 : ((c : Int) == 173) = false := by simp; omega
  have T4 : decide (48 ≤ (c : Int)) = true := by simp; omega
  have T5 : decide ((c : Int) ≤ 57) = false := by simp; omega
  have T6 : decide ((c : Int) < 127) = false := by simp; omega
  have T7 : decide (768 ≤ (c : Int)) = false := by simp; omega
  have T8 : decide ((c : Int) ≤ 879) = true := by simp; omega
  have T9 : ((c : Int) == 198) = false := by simp; omega
  have T10 : ((c : Int) == 230) = false := by simp; omega
  have T11 : ((c : Int) == 223) = false := by simp; omega
  have T12 : ((c : Int) == 255) = false := by simp; omega
  have T13 : decide (192 ≤ (c : Int)) = true := by simp; omega
  have T14 : decide ((c : Int) ≤ 253) = true := by simp; omega
  have T15 : ((c : Int) != 222) = false := by simp; omega
  have e1 : IntKind.i64.wrap (65536 + (c : Int)) = ((65536 + c : Nat) : Int) := by rw [IntWalk.i64_in _ (by omega)]; omega
  obtain ⟨x, hx⟩ : ∃ x, x = 65536 + c := ⟨_, rfl⟩
  rw [← hx] at e1 hv
  have HV := Lib.hid hv
  clear hv hx h1 h2 hc
  go_enter Tryd.func57, Tryd.ntmps57
  go_wp2_with fail
  refine (isLetter_lib c _).mono ?_
  rw [HL.out]
  rintro e w1 ⟨rfl, rfl⟩
  go_wp2_with fail
  refine (base_lib x _).mono ?_
  rw [show elV (baseE x) = .agg #[.int .i64 (x : Int), .int .i64 32, .int .i64 2] from rfl]
  rintro e w1 ⟨rfl, b1⟩
  have bb : Below w.heap.size w w1 := ((Below.refl w.heap.size w).alloc (Nat.le_refl _) _).trans (b1.mono (by simp))
  clear b1
  go_wp2_with fail
  go_ret
  exact ElsE.one HV.out bb
set_option maxRecDepth 100000 in
set_option maxHeartbeats 4000000 in
theorem point_rest_d (c : Nat) (o : Opt) (w : World) (hc : c ≤ 1114111) (h1 : c = 254) (h2 : c = 254) :
    Calls Tryd.prog 57 #[.int .i64 (c : Int), optV o] w (ElsE w (pointE c o)) := by
  have h3 : letB c = false := by simp [letB]; omega
  have hv : pointE c o = [baseE (65536 + c)] := by
    unfold pointE
    rw [if_neg (by omega), if_neg (by simp [digB]; omega), if_neg (by rw [h3]; simp), if_neg (by omega), if_neg (by omega), if_neg (by omega), if_neg (by omega), if_neg (by omega), if_neg (by omega), if_neg (by omega)]
  have HL : Hid (letB c = false) := Lib.hid h3
  clear h3
  obtain ⟨st, num, ign, up⟩ := o
  show Calls Tryd.prog 57 #[.int .i64 (c : Int), .agg #[.int .i64 st, .bool num, .bool ign, .bool up]] w (ElsE w (pointE c ⟨st, num, ign, up⟩))
  have T0 : decide ((c : Int) < 32) = false := by simp; omega
  have T1 : decide (127 ≤ (c : Int)) = true := by simp; omega
  have T2 : decide ((c : Int) ≤ 159) = false := by simp; omega
  have T3 : ((c : Int) == 173) = false := by simp; omega
  have T4 : decide (48 ≤ (c : Int)) = true := by simp; omega
  have T5 : decide ((c : Int) ≤ 57) = false := by simp; omega
  have T6 : decide ((c : Int) < 127) = false := by simp; omega
  have T7 : decide (768 ≤ (c : Int)) = false := by simp; omega
  have T8 : decide ((c : Int) ≤ 879) = true := by simp; omega
  have T9 : ((c : Int) == 198) = false := by simp; omega
  have T10 : ((c : Int) == 230) = false := by simp; omega
  have T11 : ((c : Int) == 223) = false := by simp; omega
  have T12 : ((c : Int) == 255) = false := by simp; omega
  have T13 : decide (192 ≤ (c : Int)) = true := by simp; omega
  have T14 : decide ((c : Int) ≤ 253) = false := by simp; omega
  have T15 : ((c : Int) != 222) = true := by simp; omega
  have e1 : IntKind.i64.wrap (65536 + (c : Int)) = ((65536 + c : Nat) : Int) := by rw [IntWalk.i64_in _ (by omega)]; omega
  obtain ⟨x, hx⟩ : ∃ x, x = 65536 + c := ⟨_, rfl⟩
  rw [← hx] at e1 hv
  have HV := Lib.hid hv
  clear hv hx h1 h2 hc
  go_enter Tryd.func57, Tryd.ntmps57
  go_wp2_with fail
  refine (isLetter_lib c _).mono ?_
  rw [HL.out]
  rintro e w1 ⟨rfl, rfl⟩
  go_wp2_with fail
  refine (base_lib x _).mono ?_
  rw [show elV (baseE x) = .agg #[.int .i64 (x : Int), .int .i64 32, .int .i64 2] from rfl]
  rintro e w1 ⟨rfl, b1⟩
  have bb : Below w.heap.size w w1 := ((Below.refl w.heap.size w).alloc (Nat.le_refl _) _).trans (b1.mono (by simp))
  clear b1
  go_wp2_with fail
  go_ret
  exact ElsE.one HV.out bb
set_option maxRecDepth 100000 in
set_option maxHeartbeats 4000000 in
theorem point_rest_e (c : Nat) (o : Opt) (w : World) (hc : c ≤ 1114111) (h1 : 256 ≤ c) (h2 : c ≤ 767) :
    Calls Tryd.prog 57 #[.int .i64 (c : Int), optV o] w (ElsE w (pointE c o)) := by
  have h3 : letB c = false := by simp [letB]; omega
  have hv : pointE c o = [baseE (65536 + c)] := by
    unfold pointE
    rw [if_neg (by omega), if_neg (by simp [digB]; omega), if_neg (by rw [h3]; simp), if_neg (by omega), if_neg (by omega), if_neg (by omega), if_neg (by omega), if_neg (by omega), if_neg (by omega), if_neg (by omega)]
  have HL : Hid (letB c = false) := Lib.hid h3
  clear h3
  obtain ⟨st, num, ign, up⟩ := o
  show Calls Tryd.prog 57 #[.int .i64 (c : Int), .agg #[.int .i64 st, .bool num, .bool ign, .bool up]] w (ElsE w (pointE c ⟨st, num, ign, up⟩))
  have T0 : decide ((c : Int) < 32) = false := by simp; omega
  have T1 : decide (127 ≤ (c : Int)) = true := by simp; omega
  have T2 : decide ((c : Int) ≤ 159) = false := by simp; omega
  have T3 : ((c : Int) == 173) = false := by simp; omega
  have T4 : decide (48 ≤ (c : Int)) = true := by simp; omega
  have T5 : decide ((c : Int) ≤ 57) = false := by simp; omega
  have T6 : decide ((c : Int) < 127) = false := by simp; omega
  have T7 : decide (768 ≤ (c : Int)) = false := by simp; omega
  have T8 : decide ((c : Int) ≤ 879) = true := by simp; omega
  have T9 : ((c : Int) == 198) = false := by simp; omega
  have T10 : ((c : Int) == 230) = false := by simp; omega
  have T11 : ((c : Int) == 223) = false := by simp; omega
  have T12 : ((c : Int) == 255) = false := by simp; omega
  have T13 : decide (192 ≤ (c : Int)) = true := by simp; omega
  have T14 : decide ((c : Int) ≤ 253) = false := by simp; omega
  have T15 : ((c : Int) != 222) = true := by simp; omega
  have e1 : IntKind.i64.wrap (65536 + (c : Int)) = ((65536 + c : Nat) : Int) := by rw [IntWalk.i64_in _ (by omega)]; omega
  obtain ⟨x, hx⟩ : ∃ x, x = 65536 + c := ⟨_, rfl⟩
  rw [← hx] at e1 hv
  have HV := Lib.hid hv
  clear hv hx h1 h2 hc
  go_enter Tryd.func57, Tryd.ntmps57
  go_wp2_with fail
  refine (isLetter_lib c _).mono ?_
  rw [HL.out]
  rintro e w1 ⟨rfl, rfl⟩
  go_wp2_with fail
  refine (base_lib x _).mono ?_
  rw [show elV (baseE x) = .agg #[.int .i64 (x : Int), .int .i64 32, .int .i64 2] from rfl]
  rintro e w1 ⟨rfl, b1⟩
  have bb : Below w.heap.size w w1 := ((Below.refl w.heap.size w).alloc (Nat.le_refl _) _).trans (b1.mono (by simp))
  clear b1
  go_wp2_with fail
  go_ret
  exact ElsE.one HV.out bb
set_option maxRecDepth 100000 in
set_option maxHeartbeats 4000000 in
theorem point_rest_f (c : Nat) (o : Opt) (w : World) (hc : c ≤ 1114111) (h1 : 880 ≤ c) (h2 : c ≤ 1114111) :
    Calls Tryd.prog 57 #[.int .i64 (c : Int), optV o] w (ElsE w (pointE c o)) := by
  have h3 : letB c = false := by simp [letB]; omega
  have hv : pointE c o = [baseE (65536 + c)] := by
    unfold pointE
    rw [if_neg (by omega), if_neg (by simp [digB]; omega), if_neg (by rw [h3]; simp), if_neg (by omega), if_neg (by omega), if_neg (by omega), if_neg (by omega), if_neg (by omega), if_neg (by omega), if_neg (by omega)]
  have HL : Hid (letB c = false) := Lib.hid h3
  clear h3
  obtain ⟨st, num, ign, up⟩ := o
  show Calls Tryd.prog 57 #[.int .i64 (c : Int), .agg #[.int .i64 st, .bool num, .bool ign, .bool up]] w (ElsE w (pointE c ⟨st, num, ign, up⟩))
  have T0 : decide ((c : Int) < 32) = false := by simp; omega
  have T1 : decide (127 ≤ (c : Int)) = true := by simp; omega
  have T2 : decide ((c : Int) ≤ 159) = false := by simp; omega
  have T3 : ((c : Int) == 173) = false := by simp; omega
  have T4 : decide (48 ≤ (c : Int)) = true := by simp; omega
  have T5 : decide ((c : Int) ≤ 57) = false := by simp; omega
  have T6 : decide ((c : Int) < 127) = false := by simp; omega
  have T7 : decide (768 ≤ (c : Int)) = true := by simp; omega
  have T8 : decide ((c : Int) ≤ 879) = false := by simp; omega
  have T9 : ((c : Int) == 198) = false := by simp; omega
  have T10 : ((c : Int) == 230) = false := by simp; omega
  have T11 : ((c : Int) == 223) = false := by simp; omega
  have T12 : ((c : Int) == 255) = false := by simp; omega
  have T13 : decide (192 ≤ (c : Int)) = true := by simp; omega
  have T14 : decide ((c : Int) ≤ 253) = false := by simp; omega
  have T15 : ((c : Int) != 222) = true := by simp; omega
  have e1 : IntKind.i64.wrap (65536 + (c : Int)) = ((65536 + c : Nat) : Int) := by rw [IntWalk.i64_in _ (by omega)]; omega
  obtain ⟨x, hx⟩ : ∃ x, x = 65536 + c := ⟨_, rfl⟩
  rw [← hx] at e1 hv
  have HV := Lib.hid hv
  clear hv hx h1 h2 hc
  go_enter Tryd.func57, Tryd.ntmps57
  go_wp2_with fail
  refine (isLetter_lib c _).mono ?_
  rw [HL.out]
  rintro e w1 ⟨rfl, rfl⟩
  go_wp2_with fail
  refine (base_lib x _).mono ?_
  rw [show elV (baseE x) = .agg #[.int .i64 (x : Int), .int .i64 32, .int .i64 2] from rfl]
  rintro e w1 ⟨rfl, b1⟩
  have bb : Below w.heap.size w w1 := ((Below.refl w.heap.size w).alloc (Nat.le_refl _) _).trans (b1.mono (by simp))
  clear b1
  go_wp2_with fail
  go_ret
  exact ElsE.one HV.out bb
end Go.Proofs.YtknnjnginmkblaaDoor
