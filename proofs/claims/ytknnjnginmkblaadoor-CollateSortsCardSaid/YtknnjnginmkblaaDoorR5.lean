/- Walks: the reference's weights; lists and strings compared. -/
import Derived.Test.YtknnjnginmkblaaDoorR4
import Derived.BigRegion
import Derived.BigQuiet
namespace Go.Proofs.YtknnjnginmkblaaDoor
open Go.RowKit

def fld (k : Nat) : El → Nat := if k = 1 then El.p else if k = 2 then El.s else El.t
set_option maxRecDepth 100000 in
set_option maxHeartbeats 4000000 in
theorem rweights_1 (v : Value) (l : List El) (w : World) (hsl : Sl encE 3 w w.heap.size v l) (hll : l.length ≤ 1048576) :
    Calls Tryd.prog 31 #[v, .int .i64 1] w fun e w' => ∃ v', e = .returned v' ∧ Own encI 1 3 w' w.heap.size v' (wts El.p l) ∧ Below w.heap.size w w' := by
  obtain ⟨i0, hi, hz0, hz1, hz2⟩ := info_parts info3
  obtain ⟨A, c, rfl, hlc, hcm, _⟩ := id hsl
  unfold maxLen at hcm
  have HE := Lib.hid hsl
  obtain ⟨m, hm⟩ : ∃ m, m = l.length := ⟨_, rfl⟩
  obtain ⟨W, hW⟩ : ∃ W, W = wts El.p l := ⟨_, rfl⟩
  have HW : Hid (W = wts El.p (l.take m)) := Lib.hid (by rw [hW, hm, List.take_length])
  rw [← hW]
  rw [← hm] at HE hlc hll ⊢
  have HM := Lib.hid hm
  clear hsl hm hW
  go_enter Tryd.func31, Tryd.ntmps31
  go_wp2_with fail
  go_loopw [5, 6] (fun ov iv wr => ∃ k : Nat, k ≤ m ∧ iv = .int .i64 k ∧ Own encI 1 3 wr w.heap.size ov (wts El.p (l.take k)) ∧ Below w.heap.size w wr) (fun _ iv _ => m - (intOf iv).toNat)
  case atStart => exact ⟨0, Nat.zero_le _, rfl, Own.nil _ _, Below.refl _ _⟩
  case round =>
    obtain ⟨k, hk, rfl, hown, hb⟩ := hrel
    have hbz := hb.size
    by_cases hlt : k < m
    · have hlt' : (k : Int) < m := by omega
      obtain ⟨x, hx⟩ : ∃ x, l[k]? = some x := ⟨l[k]'(by rw [← HM.out]; exact hlt), by simp⟩
      obtain ⟨b, o, hA, hbB, c0, c1, c2⟩ := Els.at (Sl.below HE.out hb) k x hx
      subst hA
      have HN : Hid (wts El.p (l.take (k + 1)) = wts El.p (l.take k) ++ (if 0 < x.p then [x.p] else [])) := Lib.hid (wts_snoc El.p l k x hx)
      have hwl : (wts El.p (l.take k)).length ≤ k := Nat.le_trans (wts_len _ _) (by rw [List.length_take]; omega)
      obtain ⟨P, hP⟩ : ∃ P, P = wts El.p (l.take k) := ⟨_, rfl⟩
      rw [← hP] at hown hwl HN
      clear hP hx
      obtain ⟨xp, xs, xt⟩ := x
      simp only at c0 c1 c2 HN
      have ek : IntKind.i64.wrap ((k : Int) + 1) = (k : Int) + 1 := IntWalk.i64_in _ (by omega)
      go_wp2_with fail
      go_region
      have hO2 : Own encI 1 3 (wr.alloc (.cells #[.int .i64 0, .int .i64 (xp : Int), .int .i64 (xs : Int), .int .i64 (xt : Int)] 3)).drew w.heap.size _ P := Own.drew (hown.alloc _)
      have hb3 : Below w.heap.size w (wr.alloc (.cells #[.int .i64 0, .int .i64 (xp : Int), .int .i64 (xs : Int), .int .i64 (xt : Int)] 3)).drew := (hb.alloc hbz _).drew
      obtain ⟨w2, hw2⟩ : ∃ w2, w2 = (wr.alloc (.cells #[.int .i64 0, .int .i64 (xp : Int), .int .i64 (xs : Int), .int .i64 (xt : Int)] 3)).drew := ⟨_, rfl⟩
      rw [← hw2] at hO2 hb3 ⊢
      have hbz3 := hb3.size
      clear hw2 hown hb c0 c1 c2
      by_cases h0 : 0 < xp
      · rw [if_pos h0] at HN
        have d0 : decide (0 < (xp : Int)) = true := by simp; omega
        go_wp2_with (at_builtin; go_loud (refine wpList_push _ rfl _ _ 42 rfl w.heap.size 3 i0 _ 1 8 Tryd.underlying42 hi hz0 hz1 hz2 rfl (by decide) encI_length encI_each _ P rfl (Own.alloc hO2 _) w2.heap.size 1 xp rfl (cells_new w2 (encI xp) 3) (by omega) (by omega) (by simp; omega) ?_; intro v3 w3 hown3 hg3; have hb4 : Below w.heap.size w w3 := (hb3.alloc hbz3 (.cells #[.int .i64 (xp : Int)] 3)).trans (Own.belowG (Own.alloc hO2 (.cells #[.int .i64 (xp : Int)] 3)) (by simp; omega) hg3); clear hg3))
        go_roundw
        case rel => exact ⟨k + 1, by omega, by go_num, by rw [HN.out]; exact hown3, hb4⟩
        case measure => simp [intOf]; omega
      · rw [if_neg h0, List.append_nil] at HN
        have d0 : decide (0 < (xp : Int)) = false := by simp; omega
        go_wp2_with fail
        go_roundw
        case rel => exact ⟨k + 1, by omega, by go_num, by rw [HN.out]; exact hO2, hb3⟩
        case measure => simp [intOf]; omega
    · have hkm : k = m := by omega
      subst hkm
      go_wp2_with fail
      go_ret
      exact ⟨_, rfl, by rw [HW.out]; exact hown, hb⟩
set_option maxRecDepth 100000 in
set_option maxHeartbeats 4000000 in
theorem rweights_2 (v : Value) (l : List El) (w : World) (hsl : Sl encE 3 w w.heap.size v l) (hll : l.length ≤ 1048576) :
    Calls Tryd.prog 31 #[v, .int .i64 2] w fun e w' => ∃ v', e = .returned v' ∧ Own encI 1 3 w' w.heap.size v' (wts El.s l) ∧ Below w.heap.size w w' := by
  obtain ⟨i0, hi, hz0, hz1, hz2⟩ := info_parts info3
  obtain ⟨A, c, rfl, hlc, hcm, _⟩ := id hsl
  unfold maxLen at hcm
  have HE := Lib.hid hsl
  obtain ⟨m, hm⟩ : ∃ m, m = l.length := ⟨_, rfl⟩
  obtain ⟨W, hW⟩ : ∃ W, W = wts El.s l := ⟨_, rfl⟩
  have HW : Hid (W = wts El.s (l.take m)) := Lib.hid (by rw [hW, hm, List.take_length])
  rw [← hW]
  rw [← hm] at HE hlc hll ⊢
  have HM := Lib.hid hm
  clear hsl hm hW
  go_enter Tryd.func31, Tryd.ntmps31
  go_wp2_with fail
  go_loopw [5, 6] (fun ov iv wr => ∃ k : Nat, k ≤ m ∧ iv = .int .i64 k ∧ Own encI 1 3 wr w.heap.size ov (wts El.s (l.take k)) ∧ Below w.heap.size w wr) (fun _ iv _ => m - (intOf iv).toNat)
  case atStart => exact ⟨0, Nat.zero_le _, rfl, Own.nil _ _, Below.refl _ _⟩
  case round =>
    obtain ⟨k, hk, rfl, hown, hb⟩ := hrel
    have hbz := hb.size
    by_cases hlt : k < m
    · have hlt' : (k : Int) < m := by omega
      obtain ⟨x, hx⟩ : ∃ x, l[k]? = some x := ⟨l[k]'(by rw [← HM.out]; exact hlt), by simp⟩
      obtain ⟨b, o, hA, hbB, c0, c1, c2⟩ := Els.at (Sl.below HE.out hb) k x hx
      subst hA
      have HN : Hid (wts El.s (l.take (k + 1)) = wts El.s (l.take k) ++ (if 0 < x.s then [x.s] else [])) := Lib.hid (wts_snoc El.s l k x hx)
      have hwl : (wts El.s (l.take k)).length ≤ k := Nat.le_trans (wts_len _ _) (by rw [List.length_take]; omega)
      obtain ⟨P, hP⟩ : ∃ P, P = wts El.s (l.take k) := ⟨_, rfl⟩
      rw [← hP] at hown hwl HN
      clear hP hx
      obtain ⟨xp, xs, xt⟩ := x
      simp only at c0 c1 c2 HN
      have ek : IntKind.i64.wrap ((k : Int) + 1) = (k : Int) + 1 := IntWalk.i64_in _ (by omega)
      go_wp2_with fail
      go_region
      have hO2 : Own encI 1 3 (wr.alloc (.cells #[.int .i64 0, .int .i64 (xp : Int), .int .i64 (xs : Int), .int .i64 (xt : Int)] 3)).drew w.heap.size _ P := Own.drew (hown.alloc _)
      have hb3 : Below w.heap.size w (wr.alloc (.cells #[.int .i64 0, .int .i64 (xp : Int), .int .i64 (xs : Int), .int .i64 (xt : Int)] 3)).drew := (hb.alloc hbz _).drew
      obtain ⟨w2, hw2⟩ : ∃ w2, w2 = (wr.alloc (.cells #[.int .i64 0, .int .i64 (xp : Int), .int .i64 (xs : Int), .int .i64 (xt : Int)] 3)).drew := ⟨_, rfl⟩
      rw [← hw2] at hO2 hb3 ⊢
      have hbz3 := hb3.size
      clear hw2 hown hb c0 c1 c2
      by_cases h0 : 0 < xs
      · rw [if_pos h0] at HN
        have d0 : decide (0 < (xs : Int)) = true := by simp; omega
        go_wp2_with (at_builtin; go_loud (refine wpList_push _ rfl _ _ 42 rfl w.heap.size 3 i0 _ 1 8 Tryd.underlying42 hi hz0 hz1 hz2 rfl (by decide) encI_length encI_each _ P rfl (Own.alloc hO2 _) w2.heap.size 1 xs rfl (cells_new w2 (encI xs) 3) (by omega) (by omega) (by simp; omega) ?_; intro v3 w3 hown3 hg3; have hb4 : Below w.heap.size w w3 := (hb3.alloc hbz3 (.cells #[.int .i64 (xs : Int)] 3)).trans (Own.belowG (Own.alloc hO2 (.cells #[.int .i64 (xs : Int)] 3)) (by simp; omega) hg3); clear hg3))
        go_roundw
        case rel => exact ⟨k + 1, by omega, by go_num, by rw [HN.out]; exact hown3, hb4⟩
        case measure => simp [intOf]; omega
      · rw [if_neg h0, List.append_nil] at HN
        have d0 : decide (0 < (xs : Int)) = false := by simp; omega
        go_wp2_with fail
        go_roundw
        case rel => exact ⟨k + 1, by omega, by go_num, by rw [HN.out]; exact hO2, hb3⟩
        case measure => simp [intOf]; omega
    · have hkm : k = m := by omega
      subst hkm
      go_wp2_with fail
      go_ret
      exact ⟨_, rfl, by rw [HW.out]; exact hown, hb⟩
set_option maxRecDepth 100000 in
set_option maxHeartbeats 4000000 in
theorem rweights_3 (v : Value) (l : List El) (w : World) (hsl : Sl encE 3 w w.heap.size v l) (hll : l.length ≤ 1048576) :
    Calls Tryd.prog 31 #[v, .int .i64 3] w fun e w' => ∃ v', e = .returned v' ∧ Own encI 1 3 w' w.heap.size v' (wts El.t l) ∧ Below w.heap.size w w' := by
  obtain ⟨i0, hi, hz0, hz1, hz2⟩ := info_parts info3
  obtain ⟨A, c, rfl, hlc, hcm, _⟩ := id hsl
  unfold maxLen at hcm
  have HE := Lib.hid hsl
  obtain ⟨m, hm⟩ : ∃ m, m = l.length := ⟨_, rfl⟩
  obtain ⟨W, hW⟩ : ∃ W, W = wts El.t l := ⟨_, rfl⟩
  have HW : Hid (W = wts El.t (l.take m)) := Lib.hid (by rw [hW, hm, List.take_length])
  rw [← hW]
  rw [← hm] at HE hlc hll ⊢
  have HM := Lib.hid hm
  clear hsl hm hW
  go_enter Tryd.func31, Tryd.ntmps31
  go_wp2_with fail
  go_loopw [5, 6] (fun ov iv wr => ∃ k : Nat, k ≤ m ∧ iv = .int .i64 k ∧ Own encI 1 3 wr w.heap.size ov (wts El.t (l.take k)) ∧ Below w.heap.size w wr) (fun _ iv _ => m - (intOf iv).toNat)
  case atStart => exact ⟨0, Nat.zero_le _, rfl, Own.nil _ _, Below.refl _ _⟩
  case round =>
    obtain ⟨k, hk, rfl, hown, hb⟩ := hrel
    have hbz := hb.size
    by_cases hlt : k < m
    · have hlt' : (k : Int) < m := by omega
      obtain ⟨x, hx⟩ : ∃ x, l[k]? = some x := ⟨l[k]'(by rw [← HM.out]; exact hlt), by simp⟩
      obtain ⟨b, o, hA, hbB, c0, c1, c2⟩ := Els.at (Sl.below HE.out hb) k x hx
      subst hA
      have HN : Hid (wts El.t (l.take (k + 1)) = wts El.t (l.take k) ++ (if 0 < x.t then [x.t] else [])) := Lib.hid (wts_snoc El.t l k x hx)
      have hwl : (wts El.t (l.take k)).length ≤ k := Nat.le_trans (wts_len _ _) (by rw [List.length_take]; omega)
      obtain ⟨P, hP⟩ : ∃ P, P = wts El.t (l.take k) := ⟨_, rfl⟩
      rw [← hP] at hown hwl HN
      clear hP hx
      obtain ⟨xp, xs, xt⟩ := x
      simp only at c0 c1 c2 HN
      have ek : IntKind.i64.wrap ((k : Int) + 1) = (k : Int) + 1 := IntWalk.i64_in _ (by omega)
      go_wp2_with fail
      go_region
      have hO2 : Own encI 1 3 (wr.alloc (.cells #[.int .i64 0, .int .i64 (xp : Int), .int .i64 (xs : Int), .int .i64 (xt : Int)] 3)).drew w.heap.size _ P := Own.drew (hown.alloc _)
      have hb3 : Below w.heap.size w (wr.alloc (.cells #[.int .i64 0, .int .i64 (xp : Int), .int .i64 (xs : Int), .int .i64 (xt : Int)] 3)).drew := (hb.alloc hbz _).drew
      obtain ⟨w2, hw2⟩ : ∃ w2, w2 = (wr.alloc (.cells #[.int .i64 0, .int .i64 (xp : Int), .int .i64 (xs : Int), .int .i64 (xt : Int)] 3)).drew := ⟨_, rfl⟩
      rw [← hw2] at hO2 hb3 ⊢
      have hbz3 := hb3.size
      clear hw2 hown hb c0 c1 c2
      by_cases h0 : 0 < xt
      · rw [if_pos h0] at HN
        have d0 : decide (0 < (xt : Int)) = true := by simp; omega
        go_wp2_with (at_builtin; go_loud (refine wpList_push _ rfl _ _ 42 rfl w.heap.size 3 i0 _ 1 8 Tryd.underlying42 hi hz0 hz1 hz2 rfl (by decide) encI_length encI_each _ P rfl (Own.alloc hO2 _) w2.heap.size 1 xt rfl (cells_new w2 (encI xt) 3) (by omega) (by omega) (by simp; omega) ?_; intro v3 w3 hown3 hg3; have hb4 : Below w.heap.size w w3 := (hb3.alloc hbz3 (.cells #[.int .i64 (xt : Int)] 3)).trans (Own.belowG (Own.alloc hO2 (.cells #[.int .i64 (xt : Int)] 3)) (by simp; omega) hg3); clear hg3))
        go_roundw
        case rel => exact ⟨k + 1, by omega, by go_num, by rw [HN.out]; exact hown3, hb4⟩
        case measure => simp [intOf]; omega
      · rw [if_neg h0, List.append_nil] at HN
        have d0 : decide (0 < (xt : Int)) = false := by simp; omega
        go_wp2_with fail
        go_roundw
        case rel => exact ⟨k + 1, by omega, by go_num, by rw [HN.out]; exact hO2, hb3⟩
        case measure => simp [intOf]; omega
    · have hkm : k = m := by omega
      subst hkm
      go_wp2_with fail
      go_ret
      exact ⟨_, rfl, by rw [HW.out]; exact hown, hb⟩
theorem rweights_lib (k : Nat) (hk : 1 ≤ k ∧ k ≤ 3) (v : Value) (l : List El) (w : World) (hsl : Sl encE 3 w w.heap.size v l) (hll : l.length ≤ 1048576) :
    Calls Tryd.prog 31 #[v, .int .i64 (k : Int)] w fun e w' => ∃ v', e = .returned v' ∧ Own encI 1 3 w' w.heap.size v' (wts (fld k) l) ∧ Below w.heap.size w w' := by
  have h : k = 1 ∨ k = 2 ∨ k = 3 := by omega
  rcases h with rfl | rfl | rfl
  · exact rweights_1 v l w hsl hll
  · exact rweights_2 v l w hsl hll
  · exact rweights_3 v l w hsl hll

set_option maxRecDepth 100000 in
set_option maxHeartbeats 4000000 in
theorem rorder_lib (u v : Value) (x y : List Nat) (w : World) (hx : Sl encI 1 w w.heap.size u x) (hy : Sl encI 1 w w.heap.size v y) :
    Calls Tryd.prog 43 #[u, v] w fun e w' => e = .returned (.int .i64 (ordL x y)) ∧ Below w.heap.size w w' := by
  obtain ⟨A, c, rfl, hlc, hcm, _⟩ := id hx
  obtain ⟨A', c', rfl, hlc', hcm', _⟩ := id hy
  unfold maxLen at hcm hcm'
  obtain ⟨R, hR⟩ : ∃ R, R = ordL x y := ⟨_, rfl⟩
  have HR : Hid (R = ordL (x.drop 0) (y.drop 0)) := Lib.hid (by rw [List.drop_zero, List.drop_zero]; exact hR)
  rw [← hR]
  obtain ⟨m, hm⟩ : ∃ m, m = x.length := ⟨_, rfl⟩
  obtain ⟨n, hn⟩ : ∃ n, n = y.length := ⟨_, rfl⟩
  have HX := Lib.hid hx
  have HY := Lib.hid hy
  rw [← hm] at HX hlc ⊢
  rw [← hn] at HY hlc' ⊢
  have HM := Lib.hid hm
  have HN := Lib.hid hn
  clear hx hy hm hn hR
  go_enter Tryd.func43, Tryd.ntmps43
  go_wp2_with fail
  go_loopw [5] (fun iv wr => ∃ k : Nat, k ≤ m ∧ k ≤ n ∧ iv = .int .i64 k ∧ Hid (R = ordL (x.drop k) (y.drop k)) ∧ Below w.heap.size w wr) (fun iv _ => m - (intOf iv).toNat)
  case atStart => exact ⟨0, Nat.zero_le _, Nat.zero_le _, rfl, HR, Below.refl _ _⟩
  case round =>
    obtain ⟨k, hk, hkn, rfl, HK, hb⟩ := hrel
    clear HR
    by_cases hlt : k < m
    · have hlt' : (k : Int) < m := by omega
      obtain ⟨a, ha⟩ : ∃ a, x[k]? = some a := ⟨x[k]'(by rw [← HM.out]; exact hlt), by simp⟩
      obtain ⟨b, o, hA, hbB, c0⟩ := Ints.at (HX.out.below hb) k a ha
      subst hA
      by_cases hkn2 : k < n
      · have hkn' : (k : Int) < n := by omega
        obtain ⟨a2, ha2⟩ : ∃ a, y[k]? = some a := ⟨y[k]'(by rw [← HN.out]; exact hkn2), by simp⟩
        obtain ⟨b', o', hA', hbB', c0'⟩ := Ints.at (HY.out.below hb) k a2 ha2
        subst hA'
        have HS : Hid (R = if cmpN a a2 ≠ 0 then cmpN a a2 else ordL (x.drop (k + 1)) (y.drop (k + 1))) := Lib.hid (by rw [HK.out]; exact ordL_at ha ha2)
        clear HK ha ha2
        have ek : IntKind.i64.wrap ((k : Int) + 1) = (k : Int) + 1 := IntWalk.i64_in _ (by omega)
        have h3 : a < a2 ∨ a2 < a ∨ a = a2 := by omega
        rcases h3 with h | h | h
        · have HV : Hid (R = -1) := Lib.hid (by rw [HS.out, cmpN_lt h]; rfl)
          have d1 : decide ((a : Int) < a2) = true := by simp; omega
          clear HS
          go_wp2_with fail
          go_quiet (fail)
          have hbq := below_drewN hb nq
          go_wp2_with fail
          go_ret
          exact ⟨ret_int HV.out.symm, hbq⟩
        · have HV : Hid (R = 1) := Lib.hid (by rw [HS.out, cmpN_gt h]; rfl)
          have d1 : decide ((a : Int) < a2) = false := by simp; omega
          have d2 : decide ((a2 : Int) < a) = true := by simp; omega
          clear HS
          go_wp2_with fail
          go_quiet (fail)
          have hbq := below_drewN hb nq
          have c1 : (wr.drewN nq).cell? ⟨b, o + k, none⟩ = some (.int .i64 (a : Int)) := c0
          have c1' : (wr.drewN nq).cell? ⟨b', o' + k, none⟩ = some (.int .i64 (a2 : Int)) := c0'
          obtain ⟨w2, hw2⟩ : ∃ w2, w2 = wr.drewN nq := ⟨_, rfl⟩
          rw [← hw2] at hbq c1 c1' ⊢
          clear hw2 hb c0 c0'
          go_wp2_with fail
          go_quiet (fail)
          have hbq2 := below_drewN hbq nq
          go_wp2_with fail
          go_ret
          exact ⟨ret_int HV.out.symm, by first | exact hbq2 | exact below_drewN hbq _⟩
        · have HV : Hid (R = ordL (x.drop (k + 1)) (y.drop (k + 1))) := Lib.hid (by rw [HS.out, cmpN_eq h]; rfl)
          have d1 : decide ((a : Int) < a2) = false := by simp; omega
          have d2 : decide ((a2 : Int) < a) = false := by simp; omega
          clear HS
          go_wp2_with fail
          go_quiet (fail)
          have hbq := below_drewN hb nq
          have c1 : (wr.drewN nq).cell? ⟨b, o + k, none⟩ = some (.int .i64 (a : Int)) := c0
          have c1' : (wr.drewN nq).cell? ⟨b', o' + k, none⟩ = some (.int .i64 (a2 : Int)) := c0'
          obtain ⟨w2, hw2⟩ : ∃ w2, w2 = wr.drewN nq := ⟨_, rfl⟩
          rw [← hw2] at hbq c1 c1' ⊢
          clear hw2 hb c0 c0'
          go_wp2_with fail
          go_quiet (fail)
          go_wp2_with fail
          go_roundw
          case rel => exact ⟨k + 1, by omega, by omega, by go_num, HV, below_drewN hbq _⟩
          case measure => simp [intOf]; omega
      · have hnk : ¬ (k : Int) < n := by omega
        have HV : Hid (R = 1) := Lib.hid (by rw [HK.out]; exact ordL_long ha (by rw [← HN.out]; omega))
        have hkn3 : k = n := by omega
        have e1 : (n : Int) < m := by omega
        have e2 : ¬ (m : Int) < n := by omega
        have e3 : decide ((m : Int) < n) = false := by simp; omega
        have e4 : decide ((n : Int) < m) = true := by simp; omega
        clear HK ha
        go_wp2_with fail
        go_ret
        exact ⟨ret_int HV.out.symm, hb⟩
    · have hlt' : ¬ (k : Int) < m := by omega
      have HV : Hid (R = if k < n then -1 else 0) := Lib.hid (by rw [HK.out, HN.out]; exact ordL_end (by rw [← HM.out]; omega))
      have hkm : k = m := by omega
      subst hkm
      clear HK hlt
      by_cases hkn2 : k < n
      · have d3 : decide ((k : Int) < n) = true := by simp; omega
        rw [if_pos hkn2] at HV
        go_wp2_with fail
        go_ret
        exact ⟨ret_int HV.out.symm, hb⟩
      · have hkn3 : k = n := by omega
        subst hkn3
        rw [if_neg hkn2] at HV
        go_wp2_with fail
        go_ret
        exact ⟨ret_int HV.out.symm, hb⟩
end Go.Proofs.YtknnjnginmkblaaDoor
