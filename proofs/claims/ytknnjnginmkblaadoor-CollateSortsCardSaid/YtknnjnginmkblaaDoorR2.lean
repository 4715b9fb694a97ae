/- Walks: the reference's accented letters; its elements of any code point. -/
import Derived.Test.YtknnjnginmkblaaDoorR1
namespace Go.Proofs.YtknnjnginmkblaaDoor
open Go.RowKit

def AccB (g : Nat) (w : World) : Prop := ∀ k, k < 30 → w.cell? ⟨g, k * 2, none⟩ = some (.int .i64 ((accL.getD k (0, 0)).1 : Int)) ∧ w.cell? ⟨g, k * 2 + 1, none⟩ = some (.int .i64 ((accL.getD k (0, 0)).2 : Int))
def accR : List Value := accL.flatMap fun x => [Value.int .i64 (x.1 : Int), Value.int .i64 (x.2 : Int)]
theorem accB_new (w : World) (t : TypeId) : AccB w.heap.size (w.alloc (.cells accR.toArray t)) := by
  intro k hk
  have hk' : k < accL.length := hk
  have hg : accL[k]? = some (accL.getD k (0, 0)) := by rw [List.getD_eq_getElem?_getD, List.getElem?_eq_getElem hk']; rfl
  have he : ∀ x : Nat × Nat, [Value.int .i64 (x.1 : Int), Value.int .i64 (x.2 : Int)].length = 2 := fun _ => rfl
  have h0 := flatMap_get (enc := fun x : Nat × Nat => [Value.int .i64 (x.1 : Int), Value.int .i64 (x.2 : Int)]) he accL k _ hg 0 _ rfl
  have h1 := flatMap_get (enc := fun x : Nat × Nat => [Value.int .i64 (x.1 : Int), Value.int .i64 (x.2 : Int)]) he accL k _ hg 1 _ rfl
  exact ⟨cells_new w accR t _ _ h0, cells_new w accR t _ _ h1⟩
set_option maxRecDepth 100000 in
set_option maxHeartbeats 4000000 in
theorem accents_lib (w : World) : Calls Tryd.prog 81 #[] w fun e w' => ∃ g, e = .returned (.slice (some ⟨g, 0, none⟩) 30 30) ∧ AccB g w' ∧ Below w.heap.size w w' := by
  have HN := Lib.hid (accB_new w 114)
  go_enter Tryd.func81, Tryd.ntmps81
  go_wp2_with fail
  go_ret
  exact ⟨w.heap.size, rfl, HN.out, (Below.refl _ _).alloc (Nat.le_refl _) _⟩

/-- The letter and the mark of an accented letter, as the reference answers. -/
def racc (c : Nat) : Nat × Nat :=
  if c = 255 then (121, 776) else if 192 ≤ c ∧ c ≤ 221 then accL.getD (c - 192) (0, 0)
  else if 224 ≤ c ∧ c ≤ 253 ∧ 0 < (accL.getD (c - 224) (0, 0)).1 then ((accL.getD (c - 224) (0, 0)).1 + 32, (accL.getD (c - 224) (0, 0)).2) else (0, 0)
def RaccE (w : World) (r : Nat × Nat) (e : Ending) (w' : World) : Prop := e = .returned (.tuple #[.int .i64 (r.1 : Int), .int .i64 (r.2 : Int)]) ∧ Below w.heap.size w w'
set_option maxRecDepth 100000 in
set_option maxHeartbeats 4000000 in
theorem ra_ff (c : Nat) (w : World) (hc : c ≤ 1114111) (h : c = 255) : Calls Tryd.prog 64 #[.int .i64 (c : Int)] w (RaccE w (racc c)) := by
  have HV : Hid (racc c = (121, 776)) := Lib.hid (by unfold racc; rw [if_pos h])
  have T0 : ((c : Int) == 255) = true := by simp; omega
  have T1 : decide (192 ≤ (c : Int)) = true := by simp; omega
  have T2 : decide ((c : Int) ≤ 221) = false := by simp; omega
  have T3 : decide (224 ≤ (c : Int)) = true := by simp; omega
  have T4 : decide ((c : Int) ≤ 253) = false := by simp; omega
  go_enter Tryd.func64, Tryd.ntmps64
  go_wp2_with fail
  go_ret2
  exact ⟨by rw [HV.out]; rfl, Below.refl _ _⟩
set_option maxRecDepth 100000 in
set_option maxHeartbeats 4000000 in
theorem ra_no0 (c : Nat) (w : World) (hc : c ≤ 1114111) (h : c < 192) : Calls Tryd.prog 64 #[.int .i64 (c : Int)] w (RaccE w (racc c)) := by
  have HV : Hid (racc c = (0, 0)) := Lib.hid (by unfold racc; rw [if_neg (by omega), if_neg (by omega), if_neg (by omega)])
  have T0 : ((c : Int) == 255) = false := by simp; omega
  have T1 : decide (192 ≤ (c : Int)) = false := by simp; omega
  have T2 : decide ((c : Int) ≤ 221) = true := by simp; omega
  have T3 : decide (224 ≤ (c : Int)) = false := by simp; omega
  have T4 : decide ((c : Int) ≤ 253) = true := by simp; omega
  go_enter Tryd.func64, Tryd.ntmps64
  go_wp2_with fail
  go_ret2
  exact ⟨by rw [HV.out]; rfl, Below.refl _ _⟩
set_option maxRecDepth 100000 in
set_option maxHeartbeats 4000000 in
theorem ra_no1 (c : Nat) (w : World) (hc : c ≤ 1114111) (h : c = 222 ∨ c = 223) : Calls Tryd.prog 64 #[.int .i64 (c : Int)] w (RaccE w (racc c)) := by
  have HV : Hid (racc c = (0, 0)) := Lib.hid (by unfold racc; rw [if_neg (by omega), if_neg (by omega), if_neg (by omega)])
  have T0 : ((c : Int) == 255) = false := by simp; omega
  have T1 : decide (192 ≤ (c : Int)) = true := by simp; omega
  have T2 : decide ((c : Int) ≤ 221) = false := by simp; omega
  have T3 : decide (224 ≤ (c : Int)) = false := by simp; omega
  have T4 : decide ((c : Int) ≤ 253) = true := by simp; omega
  go_enter Tryd.func64, Tryd.ntmps64
  go_wp2_with fail
  go_ret2
  exact ⟨by rw [HV.out]; rfl, Below.refl _ _⟩
set_option maxRecDepth 100000 in
set_option maxHeartbeats 4000000 in
theorem ra_no2 (c : Nat) (w : World) (hc : c ≤ 1114111) (h : c = 254) : Calls Tryd.prog 64 #[.int .i64 (c : Int)] w (RaccE w (racc c)) := by
  have HV : Hid (racc c = (0, 0)) := Lib.hid (by unfold racc; rw [if_neg (by omega), if_neg (by omega), if_neg (by omega)])
  have T0 : ((c : Int) == 255) = false := by simp; omega
  have T1 : decide (192 ≤ (c : Int)) = true := by simp; omega
  have T2 : decide ((c : Int) ≤ 221) = false := by simp; omega
  have T3 : decide (224 ≤ (c : Int)) = true := by simp; omega
  have T4 : decide ((c : Int) ≤ 253) = false := by simp; omega
  go_enter Tryd.func64, Tryd.ntmps64
  go_wp2_with fail
  go_ret2
  exact ⟨by rw [HV.out]; rfl, Below.refl _ _⟩
set_option maxRecDepth 100000 in
set_option maxHeartbeats 4000000 in
theorem ra_no3 (c : Nat) (w : World) (hc : c ≤ 1114111) (h : 256 ≤ c) : Calls Tryd.prog 64 #[.int .i64 (c : Int)] w (RaccE w (racc c)) := by
  have HV : Hid (racc c = (0, 0)) := Lib.hid (by unfold racc; rw [if_neg (by omega), if_neg (by omega), if_neg (by omega)])
  have T0 : ((c : Int) == 255) = false := by simp; omega
  have T1 : decide (192 ≤ (c : Int)) = true := by simp; omega
  have T2 : decide ((c : Int) ≤ 221) = false := by simp; omega
  have T3 : decide (224 ≤ (c : Int)) = true := by simp; omega
  have T4 : decide ((c : Int) ≤ 253) = false := by simp; omega
  go_enter Tryd.func64, Tryd.ntmps64
  go_wp2_with fail
  go_ret2
  exact ⟨by rw [HV.out]; rfl, Below.refl _ _⟩
set_option maxRecDepth 100000 in
set_option maxHeartbeats 4000000 in
theorem ra_up (c : Nat) (w : World) (hc : c ≤ 1114111) (h : 192 ≤ c ∧ c ≤ 221) : Calls Tryd.prog 64 #[.int .i64 (c : Int)] w (RaccE w (racc c)) := by
  have hv : racc c = accL.getD (c - 192) (0, 0) := by unfold racc; rw [if_neg (by omega), if_pos h]
  have hs := acc_small (c - 192) (by omega)
  have CA := Lib.hid accents_lib
  have T0 : ((c : Int) == 255) = false := by simp; omega
  have T1 : decide (192 ≤ (c : Int)) = true := by simp; omega
  have T2 : decide ((c : Int) ≤ 221) = true := by simp; omega
  have T3 : decide (224 ≤ (c : Int)) = false := by simp; omega
  have T4 : decide ((c : Int) ≤ 253) = true := by simp; omega
  have e2 : IntKind.i64.wrap ((c : Int) - 192) = ((c - 192 : Nat) : Int) := by rw [IntWalk.i64_in _ (by omega)]; omega
  obtain ⟨k, hk0⟩ : ∃ k, k = c - 192 := ⟨_, rfl⟩
  rw [← hk0] at hv hs e2
  have hk : k < 30 := by omega
  have hk' : (k : Int) < 30 := by omega
  obtain ⟨am, hacc0⟩ : ∃ x, accL.getD k (0, 0) = x := ⟨_, rfl⟩
  obtain ⟨a, m⟩ := am
  have hacc : accL.getD k (0, 0) = (a, m) := hacc0
  rw [hacc] at hv hs
  have HV := Lib.hid hv
  clear hv hacc0 hk0 hs
  go_enter Tryd.func64, Tryd.ntmps64
  go_wp2_with fail
  refine wp_region_noPanic ?_
  go_region_with (go_at_call 81; first
    | (have hh := bx1; (with_reducible refine (CA.out _).mono ?_); clear hh; rintro e wx2 ⟨g2, rfl, hA2, bx2⟩; have f0' := cell_over f0 bx2; have f1' := cell_over f1 bx2; have k0 := (hA2 k hk).1; have k1 := (hA2 k hk).2; rw [hacc] at k0 k1; clear hA2)
    | ((with_reducible refine (CA.out _).mono ?_); rintro e wx1 ⟨g1, rfl, hA1, bx1⟩; have f0 := (hA1 k hk).1; have f1 := (hA1 k hk).2; rw [hacc] at f0 f1; clear hA1))
  all_goals (
    refine NoPanic.normal ?_
    have bb : Below w.heap.size w wx2 := (Below.refl w.heap.size w).drew.trans (bx1.trans (bx2.mono bx1.size))
    clear bx1 bx2 f0 f1 f0' f1' k0 k1 hacc
    go_wp2_with fail
    go_ret2
    exact ⟨by rw [HV.out]; rfl, bb⟩)
set_option maxRecDepth 100000 in
set_option maxHeartbeats 4000000 in
theorem ra_low1 (c : Nat) (w : World) (hc : c ≤ 1114111) (h : 224 ≤ c ∧ c ≤ 253) (h0 : 0 < (accL.getD (c - 224) (0, 0)).1) : Calls Tryd.prog 64 #[.int .i64 (c : Int)] w (RaccE w (racc c)) := by
  have hv : racc c = ((accL.getD (c - 224) (0, 0)).1 + 32, (accL.getD (c - 224) (0, 0)).2) := by unfold racc; rw [if_neg (by omega), if_neg (by omega), if_pos ⟨h.1, h.2, h0⟩]
  have hs := acc_small (c - 224) (by omega)
  have CA := Lib.hid accents_lib
  have T0 : ((c : Int) == 255) = false := by simp; omega
  have T1 : decide (192 ≤ (c : Int)) = true := by simp; omega
  have T2 : decide ((c : Int) ≤ 221) = false := by simp; omega
  have T3 : decide (224 ≤ (c : Int)) = true := by simp; omega
  have T4 : decide ((c : Int) ≤ 253) = true := by simp; omega
  have e2 : IntKind.i64.wrap ((c : Int) - 224) = ((c - 224 : Nat) : Int) := by rw [IntWalk.i64_in _ (by omega)]; omega
  obtain ⟨k, hk0⟩ : ∃ k, k = c - 224 := ⟨_, rfl⟩
  rw [← hk0] at hv hs e2 h0
  have hk : k < 30 := by omega
  have hk' : (k : Int) < 30 := by omega
  obtain ⟨am, hacc0⟩ : ∃ x, accL.getD k (0, 0) = x := ⟨_, rfl⟩
  obtain ⟨a, m⟩ := am
  have hacc : accL.getD k (0, 0) = (a, m) := hacc0
  rw [hacc] at hv hs h0
  have d0 : decide (0 < (a : Int)) = true := by simp only at h0; simp; omega
  have d0' : 0 < a := h0
  obtain ⟨y, hy⟩ : ∃ y, y = a + 32 := ⟨_, rfl⟩
  have e3 : IntKind.i64.wrap ((a : Int) + 32) = (y : Int) := by simp only at hs; rw [IntWalk.i64_in _ (by omega)]; omega
  simp only at hv
  rw [← hy] at hv
  have HV := Lib.hid hv
  clear hv hacc0 hk0 hs h0 hy
  go_enter Tryd.func64, Tryd.ntmps64
  go_wp2_with fail
  refine (CA.out _).mono ?_
  rintro e w1 ⟨g0, rfl, hA0, b0⟩
  have q0 := (hA0 k hk).1
  rw [hacc] at q0
  clear hA0
  go_wp2_with fail
  clear q0
  refine wp_region_noPanic ?_
  go_region_with (go_at_call 81; first
    | (have hh := bx1; (with_reducible refine (CA.out _).mono ?_); clear hh; rintro e wx2 ⟨g2, rfl, hA2, bx2⟩; have f0' := cell_over f0 bx2; have f1' := cell_over f1 bx2; have k0 := (hA2 k hk).1; have k1 := (hA2 k hk).2; rw [hacc] at k0 k1; clear hA2)
    | ((with_reducible refine (CA.out _).mono ?_); rintro e wx1 ⟨g1, rfl, hA1, bx1⟩; have f0 := (hA1 k hk).1; have f1 := (hA1 k hk).2; rw [hacc] at f0 f1; clear hA1))
  all_goals (
    refine NoPanic.normal ?_
    have bb : Below w.heap.size w wx2 := b0.drew.trans ((bx1.mono b0.size).trans (bx2.mono (Nat.le_trans b0.size bx1.size)))
    clear b0 bx1 bx2 f0 f1 f0' f1' k0 k1 hacc
    go_wp2_with fail
    go_ret2
    exact ⟨by rw [HV.out]; rfl, bb⟩)
set_option maxRecDepth 100000 in
set_option maxHeartbeats 4000000 in
theorem ra_low0 (c : Nat) (w : World) (hc : c ≤ 1114111) (h : 224 ≤ c ∧ c ≤ 253) (h0 : ¬ 0 < (accL.getD (c - 224) (0, 0)).1) : Calls Tryd.prog 64 #[.int .i64 (c : Int)] w (RaccE w (racc c)) := by
  have hv : racc c = (0, 0) := by unfold racc; rw [if_neg (by omega), if_neg (by omega), if_neg (fun hh => h0 hh.2.2)]
  have hs := acc_small (c - 224) (by omega)
  have CA := Lib.hid accents_lib
  have T0 : ((c : Int) == 255) = false := by simp; omega
  have T1 : decide (192 ≤ (c : Int)) = true := by simp; omega
  have T2 : decide ((c : Int) ≤ 221) = false := by simp; omega
  have T3 : decide (224 ≤ (c : Int)) = true := by simp; omega
  have T4 : decide ((c : Int) ≤ 253) = true := by simp; omega
  have e2 : IntKind.i64.wrap ((c : Int) - 224) = ((c - 224 : Nat) : Int) := by rw [IntWalk.i64_in _ (by omega)]; omega
  obtain ⟨k, hk0⟩ : ∃ k, k = c - 224 := ⟨_, rfl⟩
  rw [← hk0] at hs e2 h0
  have hk : k < 30 := by omega
  have hk' : (k : Int) < 30 := by omega
  obtain ⟨am, hacc0⟩ : ∃ x, accL.getD k (0, 0) = x := ⟨_, rfl⟩
  obtain ⟨a, m⟩ := am
  have hacc : accL.getD k (0, 0) = (a, m) := hacc0
  rw [hacc] at hs h0
  have d0 : decide (0 < (a : Int)) = false := by simp only at h0; simp; omega
  have d0' : ¬ 0 < a := h0
  have HV := Lib.hid hv
  clear hv hacc0 hk0 hs h0
  go_enter Tryd.func64, Tryd.ntmps64
  go_wp2_with fail
  refine (CA.out _).mono ?_
  rintro e w1 ⟨g0, rfl, hA0, b0⟩
  have q0 := (hA0 k hk).1
  rw [hacc] at q0
  clear hA0
  go_wp2_with fail
  go_ret2
  exact ⟨by rw [HV.out]; rfl, b0⟩
theorem racc_lib (c : Nat) (w : World) (hc : c ≤ 1114111) : Calls Tryd.prog 64 #[.int .i64 (c : Int)] w (RaccE w (racc c)) := by
  by_cases h1 : c = 255
  · exact ra_ff c w hc h1
  by_cases h2 : c < 192
  · exact ra_no0 c w hc h2
  by_cases h3 : c ≤ 221
  · exact ra_up c w hc ⟨by omega, h3⟩
  by_cases h4 : c = 222 ∨ c = 223
  · exact ra_no1 c w hc h4
  by_cases h5 : c = 254
  · exact ra_no2 c w hc h5
  by_cases h6 : 256 ≤ c
  · exact ra_no3 c w hc h6
  by_cases h7 : 0 < (accL.getD (c - 224) (0, 0)).1
  · exact ra_low1 c w hc ⟨by omega, by omega⟩ h7
  · exact ra_low0 c w hc ⟨by omega, by omega⟩ h7
theorem point_racc (c : Nat) (o : Opt) (h1 : 160 ≤ c) (h2 : c ≠ 173) (h3 : ¬ (768 ≤ c ∧ c ≤ 879)) (h4 : c ≠ 198) (h5 : c ≠ 230) (h6 : c ≠ 223) :
    pointE c o = if 0 < (racc c).1 then [letterE (racc c).1 o.upper, markE (racc c).2] else [baseE (65536 + c)] := by
  unfold pointE
  rw [if_neg (by omega), if_neg (by simp [digB]; omega), if_neg (by simp [letB]; omega), if_neg (by omega), if_neg h3, if_neg h4, if_neg h5, if_neg h6]
  by_cases h7 : c = 255
  · rw [if_pos h7]
    unfold racc
    rw [if_pos h7, if_pos (by decide)]
  rw [if_neg h7]
  by_cases h8 : 192 ≤ c ∧ c ≤ 253 ∧ c ≠ 222
  · rw [if_pos h8]
    by_cases h9 : c ≤ 221
    · have ha : accOf c = accL.getD (c - 192) (0, 0) := by unfold accOf; rw [if_neg (by omega)]
      have hr : racc c = accL.getD (c - 192) (0, 0) := by unfold racc; rw [if_neg h7, if_pos ⟨h8.1, h9⟩]
      rw [ha, hr]
      generalize accL.getD (c - 192) (0, 0) = x
      by_cases h0 : x.1 = 0
      · rw [if_pos h0, if_neg (by omega)]
      · rw [if_neg h0, if_pos (by omega)]
    · have h10 : 224 ≤ c := by omega
      have ha : accOf c = if (accL.getD (c - 224) (0, 0)).1 = 0 then (0, 0) else ((accL.getD (c - 224) (0, 0)).1 + 32, (accL.getD (c - 224) (0, 0)).2) := by unfold accOf; rw [if_pos h10]
      have hr : racc c = if 0 < (accL.getD (c - 224) (0, 0)).1 then ((accL.getD (c - 224) (0, 0)).1 + 32, (accL.getD (c - 224) (0, 0)).2) else (0, 0) := by
        unfold racc
        rw [if_neg h7, if_neg (by omega)]
        by_cases hp : 0 < (accL.getD (c - 224) (0, 0)).1
        · rw [if_pos ⟨h10, h8.2.1, hp⟩, if_pos hp]
        · rw [if_neg (fun hh => hp hh.2.2), if_neg hp]
      rw [ha, hr]
      generalize accL.getD (c - 224) (0, 0) = x
      by_cases h0 : x.1 = 0
      · rw [if_pos h0, if_neg (show ¬ 0 < x.1 by omega)]
        rfl
      · rw [if_neg h0, if_pos (show 0 < x.1 by omega), if_neg (by show ¬ x.1 + 32 = 0; omega), if_pos (by show 0 < x.1 + 32; omega)]
  · rw [if_neg h8]
    have hr : racc c = (0, 0) := by
      unfold racc
      rw [if_neg h7, if_neg (by omega), if_neg (by omega)]
    rw [hr, if_neg (by decide)]
theorem racc_ok (c : Nat) (h0 : 0 < (racc c).1) : letB (racc c).1 = true ∧ 768 ≤ (racc c).2 ∧ (racc c).2 ≤ 879 := by
  unfold racc at h0 ⊢
  by_cases h7 : c = 255
  · rw [if_pos h7]; decide
  rw [if_neg h7] at h0 ⊢
  by_cases h8 : 192 ≤ c ∧ c ≤ 221
  · rw [if_pos h8] at h0 ⊢
    have := acc_all (c - 192) (by omega) (by omega)
    exact ⟨this.1, this.2.2.1, this.2.2.2.1⟩
  rw [if_neg h8] at h0 ⊢
  by_cases h9 : 224 ≤ c ∧ c ≤ 253 ∧ 0 < (accL.getD (c - 224) (0, 0)).1
  · rw [if_pos h9] at h0 ⊢
    have hq := acc_all (c - 224) (by omega) (by omega)
    clear h0 h9
    generalize accL.getD (c - 224) (0, 0) = x at hq ⊢
    obtain ⟨x1, x2⟩ := x
    exact ⟨hq.2.1, hq.2.2.1, hq.2.2.2.1⟩
  · rw [if_neg h9] at h0
    exact absurd h0 (by decide)
set_option maxRecDepth 100000 in
set_option maxHeartbeats 4000000 in
theorem rp_rest_lo0 (c : Nat) (o : Opt) (w : World) (hc : c ≤ 1114111) (h1 : 160 ≤ c) (h2 : c ≠ 173) (h7 : c ≤ 767) (h4 : c ≠ 198) (h5 : c ≠ 230) (h6 : c ≠ 223) (h0 : 0 < (racc c).1) :
    Calls Tryd.prog 47 #[.int .i64 (c : Int), optV o] w (ElsE w (pointE c o)) := by
  have hv := point_racc c o h1 h2 (by omega) h4 h5 h6
  rw [if_pos h0] at hv
  have hk := racc_ok c h0
  have HD : Hid (digB c = false) := Lib.hid (by simp [digB]; omega)
  have HL : Hid (letB c = false) := Lib.hid (by simp [letB]; omega)
  have RC := Lib.hid (fun w : World => racc_lib c w hc)
  obtain ⟨st, num, ign, up⟩ := o
  show Calls Tryd.prog 47 #[.int .i64 (c : Int), .agg #[.int .i64 st, .bool num, .bool ign, .bool up]] w (ElsE w (pointE c ⟨st, num, ign, up⟩))
  have T0 : decide ((c : Int) < 32) = false := by simp; omega
  have T1 : decide (127 ≤ (c : Int)) = true := by simp; omega
  have T2 : decide ((c : Int) ≤ 159) = false := by simp; omega
  have T3 : ((c : Int) == 173) = false := by simp; omega
  have T4 : decide (48 ≤ (c : Int)) = true := by simp; omega
  have T5 : decide ((c : Int) ≤ 57) = false := by simp; omega
  have T6 : decide ((c : Int) < 127) = false := by simp; omega
  have T7 : decide (768 ≤ (c : Int)) = false := by simp; omega
  have T8 : decide ((c : Int) ≤ 879) = true := by simp; omega
  have T9 : ((c : Int) == 198) = false := by simp; omega
  have T10 : ((c : Int) == 230) = false := by simp; omega
  have T11 : ((c : Int) == 223) = false := by simp; omega
  obtain ⟨r, hr⟩ : ∃ r, r = racc c := ⟨_, rfl⟩
  rw [← hr] at RC h0 hk hv
  obtain ⟨a, m⟩ := r
  simp only at h0 hk hv
  have d0 : decide (0 < (a : Int)) = true := by simp; omega
  obtain ⟨x, hx⟩ : ∃ x, x = letterE a up := ⟨_, rfl⟩
  obtain ⟨y, hy⟩ : ∃ x, x = markE m := ⟨_, rfl⟩
  have HV : Hid (pointE c ⟨st, num, ign, up⟩ = [x, y]) := Lib.hid (by rw [hv, hx, hy])
  have LX := Lib.hid (rletter_at a a rfl st num ign up hk.1 x hx)
  have LY : Hid (∀ w : World, Calls Tryd.prog 63 #[.int .i64 (m : Int)] w fun e w' => e = .returned (.agg #[.int .i64 (y.p : Int), .int .i64 (y.s : Int), .int .i64 (y.t : Int)]) ∧ Below w.heap.size w w') := Lib.hid (by rw [hy]; exact fun w => rmark_lib m w hk.2.1 hk.2.2)
  clear hv hx hy hr hk h1 h2 h4 h5 h6 h7 hc
  go_enter Tryd.func47, Tryd.ntmps47
  go_wp2_with fail
  refine (isDigit_lib c _).mono ?_
  rw [HD.out]
  rintro e w1 ⟨rfl, rfl⟩
  go_wp2_with fail
  refine (risLetter_lib c _).mono ?_
  rw [HL.out]
  rintro e w1 ⟨rfl, rfl⟩
  go_wp2_with fail
  have B0 := Box.start31 w st num ign up
  have b0 : Below w.heap.size w (w.alloc (.cells #[.int .i64 st, .bool num, .bool ign, .bool up] 31)) := (Below.refl w.heap.size w).alloc (Nat.le_refl _) _
  obtain ⟨w0, hw0⟩ : ∃ w0, w0 = w.alloc (.cells #[.int .i64 st, .bool num, .bool ign, .bool up] 31) := ⟨_, rfl⟩
  rw [← hw0] at B0 b0 ⊢
  clear hw0
  refine (RC.out _).mono ?_
  rintro e w1 ⟨rfl, b1⟩
  obtain ⟨c0, c1, c2, c3⟩ := B0.over b1
  have b1' : Below w.heap.size w w1 := b0.trans (b1.mono b0.size)
  clear b1 b0 RC B0
  go_wp2_with fail
  refine (LX.out _).mono ?_
  rintro e wx1 ⟨rfl, bx1⟩
  go_wp2_with fail
  refine (LY.out _).mono ?_
  rintro e wx2 ⟨rfl, bx2⟩
  have bb : Below w.heap.size w wx2 := b1'.trans ((bx1.mono b1'.size).trans (bx2.mono (Nat.le_trans b1'.size bx1.size)))
  clear bx1 bx2 b1' LX LY
  go_wp2_with fail
  go_ret
  exact ElsE.two HV.out bb
set_option maxRecDepth 100000 in
set_option maxHeartbeats 4000000 in
theorem rp_rest_lo1 (c : Nat) (o : Opt) (w : World) (hc : c ≤ 1114111) (h1 : 160 ≤ c) (h2 : c ≠ 173) (h7 : c ≤ 767) (h4 : c ≠ 198) (h5 : c ≠ 230) (h6 : c ≠ 223) (h0 : ¬ 0 < (racc c).1) :
    Calls Tryd.prog 47 #[.int .i64 (c : Int), optV o] w (ElsE w (pointE c o)) := by
  have hv := point_racc c o h1 h2 (by omega) h4 h5 h6
  rw [if_neg h0] at hv
  have HD : Hid (digB c = false) := Lib.hid (by simp [digB]; omega)
  have HL : Hid (letB c = false) := Lib.hid (by simp [letB]; omega)
  have RC := Lib.hid (fun w : World => racc_lib c w hc)
  obtain ⟨st, num, ign, up⟩ := o
  show Calls Tryd.prog 47 #[.int .i64 (c : Int), .agg #[.int .i64 st, .bool num, .bool ign, .bool up]] w (ElsE w (pointE c ⟨st, num, ign, up⟩))
  have T0 : decide ((c : Int) < 32) = false := by simp; omega
  have T1 : decide (127 ≤ (c : Int)) = true := by simp; omega
  have T2 : decide ((c : Int) ≤ 159) = false := by simp; omega
  have T3 : ((c : Int) == 173) = false := by simp; omega
  have T4 : decide (48 ≤ (c : Int)) = true := by simp; omega
  have T5 : decide ((c : Int) ≤ 57) = false := by simp; omega
  have T6 : decide ((c : Int) < 127) = false := by simp; omega
  have T7 : decide (768 ≤ (c : Int)) = false := by simp; omega
  have T8 : decide ((c : Int) ≤ 879) = true := by simp; omega
  have T9 : ((c : Int) == 198) = false := by simp; omega
  have T10 : ((c : Int) == 230) = false := by simp; omega
  have T11 : ((c : Int) == 223) = false := by simp; omega
  obtain ⟨r, hr⟩ : ∃ r, r = racc c := ⟨_, rfl⟩
  rw [← hr] at RC h0
  obtain ⟨a, m⟩ := r
  simp only at h0
  have d0 : decide (0 < (a : Int)) = false := by simp; omega
  have e5 : IntKind.i64.wrap (65536 + (c : Int)) = ((65536 + c : Nat) : Int) := by rw [IntWalk.i64_in _ (by omega)]; omega
  obtain ⟨x, hx⟩ : ∃ x, x = 65536 + c := ⟨_, rfl⟩
  rw [← hx] at e5 hv
  have HV := Lib.hid hv
  clear hv hx hr h1 h2 h4 h5 h6 h7 hc
  go_enter Tryd.func47, Tryd.ntmps47
  go_wp2_with fail
  refine (isDigit_lib c _).mono ?_
  rw [HD.out]
  rintro e w1 ⟨rfl, rfl⟩
  go_wp2_with fail
  refine (risLetter_lib c _).mono ?_
  rw [HL.out]
  rintro e w1 ⟨rfl, rfl⟩
  go_wp2_with fail
  have B0 := Box.start31 w st num ign up
  have b0 : Below w.heap.size w (w.alloc (.cells #[.int .i64 st, .bool num, .bool ign, .bool up] 31)) := (Below.refl w.heap.size w).alloc (Nat.le_refl _) _
  obtain ⟨w0, hw0⟩ : ∃ w0, w0 = w.alloc (.cells #[.int .i64 st, .bool num, .bool ign, .bool up] 31) := ⟨_, rfl⟩
  rw [← hw0] at B0 b0 ⊢
  clear hw0
  refine (RC.out _).mono ?_
  rintro e w1 ⟨rfl, b1⟩
  obtain ⟨c0, c1, c2, c3⟩ := B0.over b1
  have b1' : Below w.heap.size w w1 := b0.trans (b1.mono b0.size)
  clear b1 b0 RC B0
  go_wp2_with fail
  refine (rbase_lib x _).mono ?_
  rw [show elV (baseE x) = .agg #[.int .i64 (x : Int), .int .i64 32, .int .i64 2] from rfl]
  rintro e w2 ⟨rfl, b2⟩
  have bb : Below w.heap.size w w2 := b1'.trans (b2.mono b1'.size)
  clear b2 b1'
  go_wp2_with fail
  go_ret
  exact ElsE.one HV.out bb
set_option maxRecDepth 100000 in
set_option maxHeartbeats 4000000 in
theorem rp_rest_hi0 (c : Nat) (o : Opt) (w : World) (hc : c ≤ 1114111) (h1 : 160 ≤ c) (h2 : c ≠ 173) (h7 : 880 ≤ c) (h4 : c ≠ 198) (h5 : c ≠ 230) (h6 : c ≠ 223) (h0 : 0 < (racc c).1) :
    Calls Tryd.prog 47 #[.int .i64 (c : Int), optV o] w (ElsE w (pointE c o)) := by
  have hv := point_racc c o h1 h2 (by omega) h4 h5 h6
  rw [if_pos h0] at hv
  have hk := racc_ok c h0
  have HD : Hid (digB c = false) := Lib.hid (by simp [digB]; omega)
  have HL : Hid (letB c = false) := Lib.hid (by simp [letB]; omega)
  have RC := Lib.hid (fun w : World => racc_lib c w hc)
  obtain ⟨st, num, ign, up⟩ := o
  show Calls Tryd.prog 47 #[.int .i64 (c : Int), .agg #[.int .i64 st, .bool num, .bool ign, .bool up]] w (ElsE w (pointE c ⟨st, num, ign, up⟩))
  have T0 : decide ((c : Int) < 32) = false := by simp; omega
  have T1 : decide (127 ≤ (c : Int)) = true := by simp; omega
  have T2 : decide ((c : Int) ≤ 159) = false := by simp; omega
  have T3 : ((c : Int) == 173) = false := by simp; omega
  have T4 : decide (48 ≤ (c : Int)) = true := by simp; omega
  have T5 : decide ((c : Int) ≤ 57) = false := by simp; omega
  have T6 : decide ((c : Int) < 127) = false := by simp; omega
  have T7 : decide (768 ≤ (c : Int)) = true := by simp; omega
  have T8 : decide ((c : Int) ≤ 879) = false := by simp; omega
  have T9 : ((c : Int) == 198) = false := by simp; omega
  have T10 : ((c : Int) == 230) = false := by simp; omega
  have T11 : ((c : Int) == 223) = false := by simp; omega
  obtain ⟨r, hr⟩ : ∃ r, r = racc c := ⟨_, rfl⟩
  rw [← hr] at RC h0 hk hv
  obtain ⟨a, m⟩ := r
  simp only at h0 hk hv
  have d0 : decide (0 < (a : Int)) = true := by simp; omega
  obtain ⟨x, hx⟩ : ∃ x, x = letterE a up := ⟨_, rfl⟩
  obtain ⟨y, hy⟩ : ∃ x, x = markE m := ⟨_, rfl⟩
  have HV : Hid (pointE c ⟨st, num, ign, up⟩ = [x, y]) := Lib.hid (by rw [hv, hx, hy])
  have LX := Lib.hid (rletter_at a a rfl st num ign up hk.1 x hx)
  have LY : Hid (∀ w : World, Calls Tryd.prog 63 #[.int .i64 (m : Int)] w fun e w' => e = .returned (.agg #[.int .i64 (y.p : Int), .int .i64 (y.s : Int), .int .i64 (y.t : Int)]) ∧ Below w.heap.size w w') := Lib.hid (by rw [hy]; exact fun w => rmark_lib m w hk.2.1 hk.2.2)
  clear hv hx hy hr hk h1 h2 h4 h5 h6 h7 hc
  go_enter Tryd.func47, Tryd.ntmps47
  go_wp2_with fail
  refine (isDigit_lib c _).mono ?_
  rw [HD.out]
  rintro e w1 ⟨rfl, rfl⟩
  go_wp2_with fail
  refine (risLetter_lib c _).mono ?_
  rw [HL.out]
  rintro e w1 ⟨rfl, rfl⟩
  go_wp2_with fail
  have B0 := Box.start31 w st num ign up
  have b0 : Below w.heap.size w (w.alloc (.cells #[.int .i64 st, .bool num, .bool ign, .bool up] 31)) := (Below.refl w.heap.size w).alloc (Nat.le_refl _) _
  obtain ⟨w0, hw0⟩ : ∃ w0, w0 = w.alloc (.cells #[.int .i64 st, .bool num, .bool ign, .bool up] 31) := ⟨_, rfl⟩
  rw [← hw0] at B0 b0 ⊢
  clear hw0
  refine (RC.out _).mono ?_
  rintro e w1 ⟨rfl, b1⟩
  obtain ⟨c0, c1, c2, c3⟩ := B0.over b1
  have b1' : Below w.heap.size w w1 := b0.trans (b1.mono b0.size)
  clear b1 b0 RC B0
  go_wp2_with fail
  refine (LX.out _).mono ?_
  rintro e wx1 ⟨rfl, bx1⟩
  go_wp2_with fail
  refine (LY.out _).mono ?_
  rintro e wx2 ⟨rfl, bx2⟩
  have bb : Below w.heap.size w wx2 := b1'.trans ((bx1.mono b1'.size).trans (bx2.mono (Nat.le_trans b1'.size bx1.size)))
  clear bx1 bx2 b1' LX LY
  go_wp2_with fail
  go_ret
  exact ElsE.two HV.out bb
set_option maxRecDepth 100000 in
set_option maxHeartbeats 4000000 in
theorem rp_rest_hi1 (c : Nat) (o : Opt) (w : World) (hc : c ≤ 1114111) (h1 : 160 ≤ c) (h2 : c ≠ 173) (h7 : 880 ≤ c) (h4 : c ≠ 198) (h5 : c ≠ 230) (h6 : c ≠ 223) (h0 : ¬ 0 < (racc c).1) :
    Calls Tryd.prog 47 #[.int .i64 (c : Int), optV o] w (ElsE w (pointE c o)) := by
  have hv := point_racc c o h1 h2 (by omega) h4 h5 h6
  rw [if_neg h0] at hv
  have HD : Hid (digB c = false) := Lib.hid (by simp [digB]; omega)
  have HL : Hid (letB c = false) := Lib.hid (by simp [letB]; omega)
  have RC := Lib.hid (fun w : World => racc_lib c w hc)
  obtain ⟨st, num, ign, up⟩ := o
  show Calls Tryd.prog 47 #[.int .i64 (c : Int), .agg #[.int .i64 st, .bool num, .bool ign, .bool up]] w (ElsE w (pointE c ⟨st, num, ign, up⟩))
  have T0 : decide ((c : Int) < 32) = false := by simp; omega
  have T1 : decide (127 ≤ (c : Int)) = true := by simp; omega
  have T2 : decide ((c : Int) ≤ 159) = false := by simp; omega
  have T3 : ((c : Int) == 173) = false := by simp; omega
  have T4 : decide (48 ≤ (c : Int)) = true := by simp; omega
  have T5 : decide ((c : Int) ≤ 57) = false := by simp; omega
  have T6 : decide ((c : Int) < 127) = false := by simp; omega
  have T7 : decide (768 ≤ (c : Int)) = true := by simp; omega
  have T8 : decide ((c : Int) ≤ 879) = false := by simp; omega
  have T9 : ((c : Int) == 198) = false := by simp; omega
  have T10 : ((c : Int) == 230) = false := by simp; omega
  have T11 : ((c : Int) == 223) = false := by simp; omega
  obtain ⟨r, hr⟩ : ∃ r, r = racc c := ⟨_, rfl⟩
  rw [← hr] at RC h0
  obtain ⟨a, m⟩ := r
  simp only at h0
  have d0 : decide (0 < (a : Int)) = false := by simp; omega
  have e5 : IntKind.i64.wrap (65536 + (c : Int)) = ((65536 + c : Nat) : Int) := by rw [IntWalk.i64_in _ (by omega)]; omega
  obtain ⟨x, hx⟩ : ∃ x, x = 65536 + c := ⟨_, rfl⟩
  rw [← hx] at e5 hv
  have HV := Lib.hid hv
  clear hv hx hr h1 h2 h4 h5 h6 h7 hc
  go_enter Tryd.func47, Tryd.ntmps47
  go_wp2_with fail
  refine (isDigit_lib c _).mono ?_
  rw [HD.out]
  rintro e w1 ⟨rfl, rfl⟩
  go_wp2_with fail
  refine (risLetter_lib c _).mono ?_
  rw [HL.out]
  rintro e w1 ⟨rfl, rfl⟩
  go_wp2_with fail
  have B0 := Box.start31 w st num ign up
  have b0 : Below w.heap.size w (w.alloc (.cells #[.int .i64 st, .bool num, .bool ign, .bool up] 31)) := (Below.refl w.heap.size w).alloc (Nat.le_refl _) _
  obtain ⟨w0, hw0⟩ : ∃ w0, w0 = w.alloc (.cells #[.int .i64 st, .bool num, .bool ign, .bool up] 31) := ⟨_, rfl⟩
  rw [← hw0] at B0 b0 ⊢
  clear hw0
  refine (RC.out _).mono ?_
  rintro e w1 ⟨rfl, b1⟩
  obtain ⟨c0, c1, c2, c3⟩ := B0.over b1
  have b1' : Below w.heap.size w w1 := b0.trans (b1.mono b0.size)
  clear b1 b0 RC B0
  go_wp2_with fail
  refine (rbase_lib x _).mono ?_
  rw [show elV (baseE x) = .agg #[.int .i64 (x : Int), .int .i64 32, .int .i64 2] from rfl]
  rintro e w2 ⟨rfl, b2⟩
  have bb : Below w.heap.size w w2 := b1'.trans (b2.mono b1'.size)
  clear b2 b1'
  go_wp2_with fail
  go_ret
  exact ElsE.one HV.out bb
/-- The reference's elements of any code point. -/
theorem rpoint_lib (c : Nat) (o : Opt) (w : World) (hc : c ≤ 1114111) :
    Calls Tryd.prog 47 #[.int .i64 (c : Int), optV o] w (ElsE w (pointE c o)) := by
  by_cases h0 : c < 32 ∨ 127 ≤ c ∧ c ≤ 159 ∨ c = 173
  · exact rp_nil c o w h0
  by_cases h1 : 48 ≤ c ∧ c ≤ 57
  · exact rp_digit c o w hc h1.1 h1.2
  by_cases h2 : 65 ≤ c ∧ c ≤ 90
  · exact rp_letter_up c o w hc h2.1 h2.2
  by_cases h3 : 97 ≤ c ∧ c ≤ 122
  · exact rp_letter_low c o w hc h3.1 h3.2
  by_cases h4 : c < 127
  · have hl : letB c = false := by simp [letB]; omega
    have hd : digB c = false := by simp [digB]; omega
    cases hi : o.ign with
    | true => exact rp_other_true c o w hc (by omega) (by omega) hl hd hi
    | false => exact rp_other_false c o w hc (by omega) (by omega) hl hd hi
  by_cases h5 : 768 ≤ c ∧ c ≤ 879
  · exact rp_mark c o w hc h5.1 h5.2
  by_cases h6 : c = 198
  · exact rp_AE c o w hc h6
  by_cases h7 : c = 230
  · exact rp_ae c o w hc h7
  by_cases h8 : c = 223
  · exact rp_ss c o w hc h8
  by_cases h9 : 0 < (racc c).1
  · by_cases h10 : c ≤ 767
    · exact rp_rest_lo0 c o w hc (by omega) (by omega) h10 h6 h7 h8 h9
    · exact rp_rest_hi0 c o w hc (by omega) (by omega) (by omega) h6 h7 h8 h9
  · by_cases h10 : c ≤ 767
    · exact rp_rest_lo1 c o w hc (by omega) (by omega) h10 h6 h7 h8 h9
    · exact rp_rest_hi1 c o w hc (by omega) (by omega) (by omega) h6 h7 h8 h9
end Go.Proofs.YtknnjnginmkblaaDoor
