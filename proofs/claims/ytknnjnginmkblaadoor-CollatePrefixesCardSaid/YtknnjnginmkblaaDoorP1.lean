/- Walks: HasPrefix; the law's begins. -/
import Derived.Test.YtknnjnginmkblaaDoorR7
import Derived.Test.YtknnjnginmkblaaDoorPl6
namespace Go.Proofs.YtknnjnginmkblaaDoor
open Go.RowKit

theorem drop_eq_at {x y : List Nat} {k a b : Nat} (ha : x[k]? = some a) (hb : y[k]? = some b) : decide (x.drop k = y.drop k) = (decide (a = b) && decide (x.drop (k + 1) = y.drop (k + 1))) := by
  rw [drop_at ha, drop_at hb]
  simp
set_option maxRecDepth 100000 in
set_option maxHeartbeats 4000000 in
theorem slicesEqual_lib (u v : Value) (x y : List Nat) (w : World) (hx : Sl encI 1 w w.heap.size u x) (hy : Sl encI 1 w w.heap.size v y) (hxy : x.length = y.length) :
    Calls Tryd.prog 48 #[u, v] w fun e w' => e = .returned (.bool (decide (x = y))) ∧ Below w.heap.size w w' := by
  obtain ⟨A, c, rfl, hlc, hcm, _⟩ := id hx
  obtain ⟨A', c', rfl, hlc', hcm', _⟩ := id hy
  unfold maxLen at hcm hcm'
  obtain ⟨R, hR⟩ : ∃ R, R = decide (x = y) := ⟨_, rfl⟩
  have HR : Hid (R = decide (x.drop 0 = y.drop 0)) := Lib.hid hR
  rw [← hR]
  obtain ⟨m, hm⟩ : ∃ m, m = x.length := ⟨_, rfl⟩
  have HX := Lib.hid hx
  have HY := Lib.hid hy
  have HM := Lib.hid hm
  have HM2 := Lib.hid (hm.trans hxy)
  rw [← hxy] at HY hlc' ⊢
  rw [← hm] at HX HY hlc hlc' ⊢
  clear hx hy hm hR hxy
  go_enter Tryd.func48, Tryd.ntmps48
  go_wp2_with fail
  go_loopw [13] (fun iv wr => ∃ k : Nat, k ≤ m ∧ iv = .int .i64 k ∧ Hid (R = decide (x.drop k = y.drop k)) ∧ Below w.heap.size w wr) (fun iv _ => m - (intOf iv).toNat)
  case atStart => exact ⟨0, Nat.zero_le _, rfl, HR, Below.refl _ _⟩
  case round =>
    obtain ⟨k, hk, rfl, HK, hb⟩ := hrel
    clear HR
    by_cases hlt : k < m
    · have hlt' : (k : Int) < m := by omega
      obtain ⟨a, ha⟩ : ∃ a, x[k]? = some a := ⟨x[k]'(by rw [← HM.out]; exact hlt), by simp⟩
      obtain ⟨b, o, hA, hbB, c0⟩ := Ints.at (HX.out.below hb) k a ha
      subst hA
      obtain ⟨a2, ha2⟩ : ∃ a, y[k]? = some a := ⟨y[k]'(by rw [← HM2.out]; exact hlt), by simp⟩
      obtain ⟨b', o', hA', hbB', c0'⟩ := Ints.at (HY.out.below hb) k a2 ha2
      subst hA'
      have HS : Hid (R = (decide (a = a2) && decide (x.drop (k + 1) = y.drop (k + 1)))) := Lib.hid (by rw [HK.out]; exact drop_eq_at ha ha2)
      clear HK ha ha2
      by_cases h : a = a2
      · have HS2 : Hid (R = decide (x.drop (k + 1) = y.drop (k + 1))) := Lib.hid (by rw [HS.out]; simp [h])
        have d1 : ((a : Int) != (a2 : Int)) = false := by rw [h]; simp
        clear HS h
        go_wp2_with fail
        go_quiet (fail)
        have hbq := below_drewN hb nq
        go_wp2_with fail
        go_roundw
        case rel => exact ⟨k + 1, by omega, by go_num, HS2, hbq⟩
        case measure => simp [intOf]; omega
      · have HS2 : Hid (R = false) := Lib.hid (by rw [HS.out]; simp [h])
        have d1 : ((a : Int) != (a2 : Int)) = true := by simp; omega
        clear HS
        go_wp2_with fail
        go_quiet (fail)
        have hbq := below_drewN hb nq
        go_wp2_with fail
        go_ret
        exact ⟨ret_bool HS2.out.symm, hbq⟩
    · have HE : Hid (R = true) := Lib.hid (by rw [HK.out, List.drop_eq_nil_of_le (by rw [← HM.out]; omega), List.drop_eq_nil_of_le (by rw [← HM2.out]; omega)]; simp)
      clear HK
      go_wp2_with fail
      go_ret
      exact ⟨ret_bool HE.out.symm, hb⟩

set_option maxRecDepth 100000 in
set_option maxHeartbeats 4000000 in
theorem begins_lib (u v : Value) (x y : List Nat) (w : World) (hx : Sl encI 1 w w.heap.size u x) (hy : Sl encI 1 w w.heap.size v y) :
    Calls Tryd.prog 32 #[u, v] w fun e w' => e = .returned (.bool (isPre x y)) ∧ Below w.heap.size w w' := by
  obtain ⟨A, c, rfl, hlc, hcm, _⟩ := id hx
  obtain ⟨A', c', rfl, hlc', hcm', _⟩ := id hy
  unfold maxLen at hcm hcm'
  by_cases hl : x.length < y.length
  · have HV := Lib.hid (isPre_short hl)
    obtain ⟨m, hm⟩ : ∃ m, m = x.length := ⟨_, rfl⟩
    obtain ⟨n, hn⟩ : ∃ n, n = y.length := ⟨_, rfl⟩
    rw [← hm] at hl hlc ⊢
    rw [← hn] at hl hlc' ⊢
    have d0 : decide ((m : Int) < (n : Int)) = true := by simp; omega
    clear hx hy hm hn
    go_enter Tryd.func32, Tryd.ntmps32
    go_wp2_with fail
    go_ret
    exact ⟨ret_bool HV.out.symm, Below.refl _ _⟩
  · have HV := Lib.hid (isPre_long (Nat.le_of_not_lt hl))
    have ht := Sl.take hx y.length A x.length c rfl
    rw [Nat.min_eq_right (Nat.le_of_not_lt hl)] at ht
    have CO := Lib.hid (rorder_lib _ _ _ _ w ht hy)
    obtain ⟨z, hz⟩ : ∃ z, z = ordL (x.take y.length) y := ⟨_, rfl⟩
    rw [← hz] at CO HV
    obtain ⟨V, hV⟩ : ∃ V, V = isPre x y := ⟨_, rfl⟩
    rw [← hV] at HV ⊢
    obtain ⟨m, hm⟩ : ∃ m, m = x.length := ⟨_, rfl⟩
    obtain ⟨n, hn⟩ : ∃ n, n = y.length := ⟨_, rfl⟩
    rw [← hm] at hl hlc ⊢
    rw [← hn] at CO hl hlc' ⊢
    have d0 : decide ((m : Int) < (n : Int)) = false := by simp; omega
    have q1 : (n : Int) ≤ (c : Int) := by omega
    have q2 : n ≤ c := by omega
    clear hx hy hm hn ht hz hV
    go_enter Tryd.func32, Tryd.ntmps32
    go_wp2_with fail
    refine CO.out.mono ?_
    rintro e w1 ⟨rfl, b1⟩
    clear CO
    by_cases h0 : z = 0
    · have e0 : (z == 0) = true := by simpa using h0
      have HV2 : Hid (V = true) := Lib.hid (by rw [HV.out]; simpa using h0)
      go_wp2_with fail
      go_ret
      exact ⟨ret_bool (by rw [HV2.out] <;> first | rfl | exact e0 | simp [h0]), b1⟩
    · have e0 : (z == 0) = false := by simpa using h0
      have HV2 : Hid (V = false) := Lib.hid (by rw [HV.out]; simpa using h0)
      go_wp2_with fail
      go_ret
      exact ⟨ret_bool (by rw [HV2.out] <;> first | rfl | exact e0 | simp [h0]), b1⟩

set_option maxRecDepth 100000 in
set_option maxHeartbeats 8000000 in
theorem hasPrefix_lib (a b : ByteArray) (o : Opt) (w : World) :
    Calls Tryd.prog 30 #[.string a, .string b, optV o] w fun e w' => e = .returned (.tuple #[.bool (preR o a b), .int .i64 (errC o [a, b])]) ∧ Below w.heap.size w w' := by
  have CK : Hid (∀ (v : Value) (w : World), Sl encS 1 w w.heap.size v [a, b] → Calls Tryd.prog 34 #[optV o, v] w fun e w' => e = .returned (.int .i64 (errC o [a, b])) ∧ Below w.heap.size w w') := Lib.hid (fun v w h => checkS_lib o v [a, b] w h)
  obtain ⟨E, hE⟩ : ∃ E, E = errC o [a, b] := ⟨_, rfl⟩
  rw [← hE] at CK ⊢
  by_cases h0 : E = 0
  · obtain ⟨hst, hok⟩ := errC_ok (hE.symm.trans h0)
    obtain ⟨ha1, ha2⟩ := hok a (by simp)
    obtain ⟨hb1, hb2⟩ := hok b (by simp)
    have CA : Hid (∀ w : World, Calls Tryd.prog 36 #[.string a, optV o] w (ElsE w (elS o a))) := Lib.hid (fun w => elements_lib a o w (by omega) ha2)
    have CB : Hid (∀ w : World, Calls Tryd.prog 36 #[.string b, optV o] w (ElsE w (elS o b))) := Lib.hid (fun w => elements_lib b o w (by omega) hb2)
    have hlx := elS_len (o := o) ha1 ha2
    have hly := elS_len (o := o) hb1 hb2
    have hR : preR o a b = isPre (wts El.p (elS o a)) (wts El.p (elS o b)) := by
      unfold preR
      rw [← hE]
      simp [h0]
    obtain ⟨x, hx⟩ : ∃ x, x = elS o a := ⟨_, rfl⟩
    obtain ⟨y, hy⟩ : ∃ y, y = elS o b := ⟨_, rfl⟩
    obtain ⟨R, hRR⟩ : ∃ R, R = preR o a b := ⟨_, rfl⟩
    rw [← hx] at CA hlx hR
    rw [← hy] at CB hly hR
    rw [← hRR] at hR ⊢
    have hlx2 : x.length ≤ 1048576 := by omega
    have hly2 : y.length ≤ 1048576 := by omega
    have HR := Lib.hid hR
    clear hE hok ha1 ha2 hb1 hb2 hx hy hRR hR hst
    subst h0
    obtain ⟨st, num, ign, up⟩ := o
    change Hid (∀ w : World, Calls Tryd.prog 36 #[.string a, .agg #[.int .i64 st, .bool num, .bool ign, .bool up]] w (ElsE w x)) at CA
    change Hid (∀ w : World, Calls Tryd.prog 36 #[.string b, .agg #[.int .i64 st, .bool num, .bool ign, .bool up]] w (ElsE w y)) at CB
    change Hid (∀ (v : Value) (w : World), Sl encS 1 w w.heap.size v [a, b] → Calls Tryd.prog 34 #[.agg #[.int .i64 st, .bool num, .bool ign, .bool up], v] w fun e w' => e = .returned (.int .i64 0) ∧ Below w.heap.size w w') at CK
    show Calls Tryd.prog 30 #[.string a, .string b, .agg #[.int .i64 st, .bool num, .bool ign, .bool up]] w _
    go_enter Tryd.func30, Tryd.ntmps30
    go_wp2_with fail
    have B0 : BoxG w.heap.size st num ign up (w.alloc (.cells #[.int .i64 st, .bool num, .bool ign, .bool up] 23)) := BoxG.new w st num ign up
    have b0 : Below w.heap.size w (w.alloc (.cells #[.int .i64 st, .bool num, .bool ign, .bool up] 23)) := (Below.refl w.heap.size w).alloc (Nat.le_refl _) _
    have hz0 : (w.alloc (.cells #[.int .i64 st, .bool num, .bool ign, .bool up] 23)).heap.size = w.heap.size + 1 := by simp
    obtain ⟨w0, hw0⟩ : ∃ w0, w0 = w.alloc (.cells #[.int .i64 st, .bool num, .bool ign, .bool up] 23) := ⟨_, rfl⟩
    rw [← hw0] at B0 b0 hz0 ⊢
    clear hw0
    refine (CK.out _ _ ?_).mono ?_
    · have := Sl.fresh (enc := encS) (fun _ => rfl) w0 9 [a, b] (by simp [maxLen])
      rw [show (w0.alloc (Obj.cells #[Value.string a, Value.string b] 9)).heap.size = w0.heap.size + 1 from by simp]
      rw [hz0] at this ⊢
      exact this
    rintro e w1 ⟨rfl, b1⟩
    have b01 : Below w0.heap.size w0 (w0.alloc (Obj.cells #[Value.string a, Value.string b] 9)) := (Below.refl _ _).alloc (Nat.le_refl _) _
    have b1' : Below w0.heap.size w0 w1 := b01.trans (b1.mono b01.size)
    have BG := B0.over b1'
    have bb1 : Below w.heap.size w w1 := b0.trans (b1'.mono b0.size)
    clear b1 b01 b1' b0 B0 CK
    go_wp2_with fail
    go_region_held3 (fun w' => w'.cell? ⟨w.heap.size, 0, none⟩ = some (.int .i64 st) ∧ w'.cell? ⟨w.heap.size, 1, none⟩ = some (.bool num) ∧ w'.cell? ⟨w.heap.size, 2, none⟩ = some (.bool ign) ∧ w'.cell? ⟨w.heap.size, 3, none⟩ = some (.bool up) ∧ BoxG w.heap.size st num ign up w') (first
        | exact BoxG.all BG
        | (go_split_ands; exact BoxG.all (BoxG.over (by assumption) bx1))
        | (go_split_ands; exact BoxG.all (BoxG.over (by assumption) bx2))
        | (go_split_ands; exact BoxG.all (BoxG.over (by assumption) bx3))
        | (go_split_ands; exact BoxG.all (BoxG.over (by assumption) bx4)))
      (first
        | (go_at_call 36; (with_reducible refine (CA.out _).mono ?_); rintro e wx1 ⟨vx, rfl, hsx, bx1⟩)
        | (go_at_call 41; (with_reducible refine (weights_one vx x wx1 hsx hlx2).mono ?_); rintro e wx2 ⟨v2, rfl, hO2, bx2⟩)
        | (go_at_call 36; (with_reducible refine (CB.out _).mono ?_); rintro e wx3 ⟨vy, rfl, hsy, bx3⟩)
        | (go_at_call 41; (with_reducible refine (weights_one vy y wx3 hsy hly2).mono ?_); rintro e wx4 ⟨v4, rfl, hO4, bx4⟩))
    have b24 : Below wx2.heap.size wx2 wx4 := bx3.trans (bx4.mono bx3.size)
    have bw : Below w.heap.size w wx4 := bb1.drew.trans ((bx1.trans ((bx2.trans (b24.mono bx2.size)).mono bx1.size)).mono bb1.size)
    have hX := (hO2.sl encI_length).over b24
    have hY := hO4.sl encI_length
    obtain ⟨X, hXX⟩ : ∃ X, X = wts El.p x := ⟨_, rfl⟩
    obtain ⟨Y, hYY⟩ : ∃ Y, Y = wts El.p y := ⟨_, rfl⟩
    rw [← hXX, ← hYY] at HR
    rw [← hXX] at hX
    rw [← hYY] at hY
    clear bx1 bx2 bx3 bx4 b24 bb1 BG hsx hsy hO2 hO4 CA CB hXX hYY
    obtain ⟨A, c, rfl, hlc, hcm, _⟩ := id hX
    obtain ⟨A', c', rfl, hlc', hcm', _⟩ := id hY
    unfold maxLen at hcm hcm'
    by_cases hl : X.length < Y.length
    · have HV : Hid (R = false) := Lib.hid (HR.out.trans (isPre_short hl))
      obtain ⟨m, hm⟩ : ∃ m, m = X.length := ⟨_, rfl⟩
      obtain ⟨n, hn⟩ : ∃ n, n = Y.length := ⟨_, rfl⟩
      rw [← hm] at hl hlc ⊢
      rw [← hn] at hl hlc' ⊢
      have d0 : decide ((n : Int) ≤ (m : Int)) = false := by simp; omega
      clear hX hY hm hn HR
      go_wp2_with fail
      go_ret2
      exact ⟨by rw [HV.out]; rfl, bw⟩
    · have HV := Lib.hid (HR.out.trans (isPre_long (Nat.le_of_not_lt hl)))
      have ht := Sl.take hX Y.length A X.length c rfl
      rw [Nat.min_eq_right (Nat.le_of_not_lt hl)] at ht
      have CE := Lib.hid (slicesEqual_lib _ _ _ _ wx4 ht hY (by rw [List.length_take]; omega))
      have hdd : decide (X.take Y.length = Y) = decide (ordL (X.take Y.length) Y = 0) := by rw [Bool.eq_iff_iff]; simp only [decide_eq_true_eq, ordL_iff]
      rw [hdd, ← HV.out] at CE
      obtain ⟨m, hm⟩ : ∃ m, m = X.length := ⟨_, rfl⟩
      obtain ⟨n, hn⟩ : ∃ n, n = Y.length := ⟨_, rfl⟩
      rw [← hm] at hl hlc ⊢
      rw [← hn] at CE hl hlc' ⊢
      have d0 : decide ((n : Int) ≤ (m : Int)) = true := by simp; omega
      have q1 : (n : Int) ≤ (c : Int) := by omega
      have q2 : n ≤ c := by omega
      clear hX hY hm hn HR ht hdd HV
      go_wp2_with fail
      refine CE.out.mono ?_
      rintro e w7 ⟨rfl, b7⟩
      have bw7 := bw.trans (b7.mono bw.size)
      clear CE b7
      go_wp2_with fail
      go_ret2
      exact ⟨rfl, bw7⟩
  · have HR : Hid (preR o a b = false) := Lib.hid (by unfold preR; rw [← hE]; simp [h0])
    have d0 : (E != 0) = true := by simpa using h0
    obtain ⟨R, hRR⟩ : ∃ R, R = preR o a b := ⟨_, rfl⟩
    rw [← hRR] at HR ⊢
    clear hE h0 hRR
    obtain ⟨st, num, ign, up⟩ := o
    change Hid (∀ (v : Value) (w : World), Sl encS 1 w w.heap.size v [a, b] → Calls Tryd.prog 34 #[.agg #[.int .i64 st, .bool num, .bool ign, .bool up], v] w fun e w' => e = .returned (.int .i64 E) ∧ Below w.heap.size w w') at CK
    show Calls Tryd.prog 30 #[.string a, .string b, .agg #[.int .i64 st, .bool num, .bool ign, .bool up]] w _
    go_enter Tryd.func30, Tryd.ntmps30
    go_wp2_with fail
    have b0 : Below w.heap.size w (w.alloc (.cells #[.int .i64 st, .bool num, .bool ign, .bool up] 23)) := (Below.refl w.heap.size w).alloc (Nat.le_refl _) _
    have hz0 : (w.alloc (.cells #[.int .i64 st, .bool num, .bool ign, .bool up] 23)).heap.size = w.heap.size + 1 := by simp
    obtain ⟨w0, hw0⟩ : ∃ w0, w0 = w.alloc (.cells #[.int .i64 st, .bool num, .bool ign, .bool up] 23) := ⟨_, rfl⟩
    rw [← hw0] at b0 hz0 ⊢
    clear hw0
    refine (CK.out _ _ ?_).mono ?_
    · have := Sl.fresh (enc := encS) (fun _ => rfl) w0 9 [a, b] (by simp [maxLen])
      rw [show (w0.alloc (Obj.cells #[Value.string a, Value.string b] 9)).heap.size = w0.heap.size + 1 from by simp]
      rw [hz0] at this ⊢
      exact this
    rintro e w1 ⟨rfl, b1⟩
    have b01 : Below w0.heap.size w0 (w0.alloc (Obj.cells #[Value.string a, Value.string b] 9)) := (Below.refl _ _).alloc (Nat.le_refl _) _
    have bb : Below w.heap.size w w1 := b0.trans ((b01.trans (b1.mono b01.size)).mono b0.size)
    clear b1 b01 b0
    go_wp2_with fail
    go_ret2
    exact ⟨by rw [HR.out]; rfl, bb⟩
end Go.Proofs.YtknnjnginmkblaaDoor
