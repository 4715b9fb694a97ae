/- Walk: the law on numbers. -/
import Derived.Test.YtknnjnginmkblaaDoorN2
import Derived.Test.YtknnjnginmkblaaDoorStrengths
namespace Go.Proofs.YtknnjnginmkblaaDoor
open Go.RowKit

theorem last_of {s : ByteArray} {k : Nat} (hk : k < s.size) (he : s.size = k + 1) : (bytesN s).getLast? = some (s[k].toNat) := by
  rw [List.getLast?_eq_getElem?, bytesN_length, he]
  have := bytesN_drop s k hk
  have h2 := congrArg List.head? this
  rw [List.head?_drop] at h2
  exact h2

set_option maxRecDepth 100000 in
set_option maxHeartbeats 16000000 in
theorem numbers_any (A B : Int) (S : ByteArray) (hA : -9223372036854775808 ≤ A ∧ A ≤ 9223372036854775807) (hB : -9223372036854775808 ≤ B ∧ B ≤ 9223372036854775807) (w : World) :
    Calls Tryd.prog 7 #[.int .i64 A, .int .i64 B, .string S] w fun e w' => e = .returned (.bool true) ∧ Below w.heap.size w w' := by
  obtain ⟨s, hs⟩ : ∃ s, s = cutS S := ⟨_, rfl⟩
  have HS : Hid (∀ w : World, Calls Tryd.prog 14 #[.string S] w fun e w' => e = .returned (.string s) ∧ w = w') := Lib.hid (fun w => by rw [hs]; exact cut_lib S w)
  have hsz : s.size ≤ 200 := by rw [hs]; exact cutS_size S
  clear hs
  have CP := Lib.hid (fun w : World => points_lib s w (by omega))
  have CKN := Lib.hid known_lib
  obtain ⟨V, hV⟩ : ∃ V, V = (pts (bytesN s)).isSome := ⟨_, rfl⟩
  rw [← hV] at CP
  have HV := Lib.hid hV
  clear hV
  go_enter Tryd.func7, Tryd.ntmps7
  go_wp2_with fail
  refine (HS.out _).mono ?_
  rintro e w1 ⟨rfl, rfl⟩
  go_wp2_with fail
  refine (CP.out _).mono ?_
  rintro e w1 ⟨pv, sv, rfl, _, b1⟩
  go_wp2_with fail
  refine (CKN.out _).mono ?_
  rintro e w2 ⟨rfl, hb2⟩
  have b2 := b1.trans (hb2.mono b1.size)
  clear hb2 b1 HS CP
  by_cases hA0 : A < 0
  · clear HV hA hB
    go_wp2_with fail
    refine (CKN.out _).mono ?_
    rintro e w3 ⟨rfl, hb3⟩
    have b3 := b2.trans (hb3.mono b2.size)
    clear hb3 b2 CKN
    go_wp2_with fail
    go_ret
    exact ⟨rfl, b3⟩
  by_cases hB0 : B < 0
  · have hA1 : ¬ A < 0 := hA0
    clear HV hA hB
    go_wp2_with fail
    refine (CKN.out _).mono ?_
    rintro e w3 ⟨rfl, hb3⟩
    have b3 := b2.trans (hb3.mono b2.size)
    clear hb3 b2 CKN
    go_wp2_with fail
    go_ret
    exact ⟨rfl, b3⟩
  obtain ⟨a, rfl⟩ : ∃ a : Nat, A = (a : Int) := ⟨A.toNat, by omega⟩
  obtain ⟨b, rfl⟩ : ∃ b : Nat, B = (b : Int) := ⟨B.toNat, by omega⟩
  have ha : a < 9223372036854775808 := by omega
  have hb : b < 9223372036854775808 := by omega
  have tA : decide ((a : Int) < 0) = false := by rw [decide_eq_false_iff_not]; exact hA0
  have tB : decide ((b : Int) < 0) = false := by rw [decide_eq_false_iff_not]; exact hB0
  cases V with
  | false =>
    clear HV hA hB ha hb
    go_wp2_with fail
    refine (CKN.out _).mono ?_
    rintro e w3 ⟨rfl, hb3⟩
    have b3 := b2.trans (hb3.mono b2.size)
    clear hb3 b2 CKN
    go_wp2_with fail
    go_ret
    exact ⟨rfl, b3⟩
  | true =>
    obtain ⟨La, hLa⟩ : ∃ L, L = List.replicate (b % 10) 48 ++ decN a := ⟨_, rfl⟩
    obtain ⟨Lb, hLb⟩ : ∃ L, L = List.replicate 0 48 ++ decN b := ⟨_, rfl⟩
    obtain ⟨z, hz⟩ : ∃ z, z = b % 10 := ⟨_, rfl⟩
    have D1 : Hid (∀ w : World, Calls Tryd.prog 24 #[.int .i64 (a : Int), .int .i64 (z : Int)] w (RkeyE w La)) := Lib.hid (fun w => by rw [hLa, hz]; exact digits_lib a (b % 10) ha (by omega) w)
    have D2 : Hid (∀ w : World, Calls Tryd.prog 24 #[.int .i64 (b : Int), .int .i64 0] w (RkeyE w Lb)) := Lib.hid (fun w => by rw [hLb]; exact digits_lib b 0 hb (by omega) w)
    have DS : Hid (∀ t : ByteArray, bytesN t = La ∨ bytesN t = Lb → s.size + t.size ≤ 9223372036854775807) := Lib.hid (fun t ht => by
      have : t.size ≤ 28 := by
        rcases ht with h | h
        · exact digits_size (h.trans hLa) (by omega) ha
        · exact digits_size (h.trans hLb) (by omega) hb
      omega)
    have CC : Hid ((∀ x, (bytesN s).getLast? = some x → digB x = false) → ∀ ta tb : ByteArray, bytesN ta = La → bytesN tb = Lb → ∀ w : World, Calls Tryd.prog 20 #[.string (s ++ ta), .string (s ++ tb), .agg #[.int .i64 1, .bool true, .bool false, .bool false]] w fun e w' => e = .returned (.tuple #[.int .i64 (sgn a b), .int .i64 0]) ∧ Below w.heap.size w w') := Lib.hid (fun hl ta tb h1 h2 w => by
      obtain ⟨q1, q2⟩ := numbers_cmp (a := a) (b := b) HV.out.symm hsz hl (h1.trans hLa) (h2.trans hLb) (by omega) (by omega) ha hb
      have := compare_lib (s ++ ta) (s ++ tb) optN w
      rw [q1, q2] at this
      exact this)
    have HZ := Lib.hid hz
    have m1 : (b : Int) % 10 = (z : Int) := by omega
    have m2 : (b : Int).tmod 10 = (z : Int) := by rw [Int.tmod_eq_emod_of_nonneg (by omega)]; exact m1
    clear hz hLa hLb hA hB ha hb HV hA0 hB0
    by_cases hs0 : s.size = 0
    · have HL := Lib.hid (CC.out (fun x hx => by
        rw [List.getLast?_eq_getElem?, List.getElem?_eq_none (by rw [bytesN_length]; omega)] at hx
        cases hx))
      have t0 : decide (0 < (s.size : Int)) = false := by rw [decide_eq_false_iff_not]; omega
      have t00 : ¬ (0 : Int) < (s.size : Int) := by omega
      clear CC
      clear CKN
      go_upto_region 6 with fail
      have b5 : Below w.heap.size w (w2.alloc (.cells #[.int .i64 1, .bool true, .bool false, .bool false] 23)) := b2.alloc b2.size _
      have G5 : (w2.alloc (.cells #[.int .i64 1, .bool true, .bool false, .bool false] 23)).heap[w2.heap.size]? = some (ObjO 1 true false false) := objO_new w2 1 true false false
      obtain ⟨g, hg⟩ : ∃ g, g = w2.heap.size := ⟨_, rfl⟩
      rw [← hg] at G5 ⊢
      obtain ⟨w5, hw5⟩ : ∃ w5, w5 = w2.alloc (.cells #[.int .i64 1, .bool true, .bool false, .bool false] 23) := ⟨_, rfl⟩
      rw [← hw5] at b5 G5 ⊢
      clear hw5 hg b2 tA tB t0 t00
      obtain ⟨c0, c1, c2, c3, _⟩ := objO_cells G5
      have BG : BoxG g 1 true false false w5 := ⟨c0, c1, c2, c3⟩
      go_region_held3 (fun w' => w'.cell? ⟨g, 0, none⟩ = some (.int .i64 1) ∧ w'.cell? ⟨g, 1, none⟩ = some (.bool true) ∧ w'.cell? ⟨g, 2, none⟩ = some (.bool false) ∧ w'.cell? ⟨g, 3, none⟩ = some (.bool false) ∧ BoxG g 1 true false false w') (first
          | exact BoxG.all BG
          | (go_split_ands; exact BoxG.all (BoxG.over (by assumption) bx1))
          | (go_split_ands; exact BoxG.all (BoxG.over (by assumption) bx2))
          | (go_split_ands; exact BoxG.all (BoxG.over (by assumption) bx3)))
        (first
          | (go_at_call 24; (with_reducible refine (D1.out _).mono ?_); rintro e wx1 ⟨ta, rfl, hta, bx1⟩; have k1 : ∀ w : World, (Op.stringOp .add s ta).run Tryd.prog w = .ok (.string (s ++ ta)) w := fun w => run_string_add_sum w _ _ (DS.out ta (.inl hta)))
          | (go_at_call 24; (with_reducible refine (D2.out _).mono ?_); rintro e wx2 ⟨tb, rfl, htb, bx2⟩; have k2 : ∀ w : World, (Op.stringOp .add s tb).run Tryd.prog w = .ok (.string (s ++ tb)) w := fun w => run_string_add_sum w _ _ (DS.out tb (.inr htb)))
          | (go_at_call 20; (with_reducible refine (HL.out ta tb hta htb _).mono ?_); rintro e wx3 ⟨rfl, bx3⟩))
      have x1 : Below w5.heap.size w5 wx1 := (Below.refl w5.heap.size w5).drew.trans bx1
      have x2 := x1.trans (bx2.mono x1.size)
      have x3 := x2.trans (bx3.mono x2.size)
      have b6 := b5.trans (x3.mono b5.size)
      clear x1 x2 x3 bx1 bx2 bx3 b5 G5 BG c0 c1 c2 c3 k1 k2 hta htb HL DS D1 D2 HZ m1 m2
      obtain ⟨n, hn⟩ : ∃ n, n = sgn a b := ⟨_, rfl⟩
      rw [← hn]
      by_cases g1 : a < b
      · have hn1 : n = -1 := by rw [hn]; unfold sgn; rw [if_pos g1]
        have g2 : (a : Int) < (b : Int) := by omega
        have g3 : ¬ (b : Int) < (a : Int) := by omega
        clear hn
        subst hn1
        go_wp2_with fail
        go_ret
        exact ⟨rfl, b6⟩
      by_cases g4 : b < a
      · have hn1 : n = 1 := by rw [hn]; unfold sgn; rw [if_neg g1, if_pos g4]
        have g2 : ¬ (a : Int) < (b : Int) := by omega
        have g3 : (b : Int) < (a : Int) := by omega
        clear hn
        subst hn1
        go_wp2_with fail
        go_ret
        exact ⟨rfl, b6⟩
      · have hn1 : n = 0 := by rw [hn]; unfold sgn; rw [if_neg g1, if_neg g4]
        have g2 : ¬ (a : Int) < (b : Int) := by omega
        have g3 : ¬ (b : Int) < (a : Int) := by omega
        clear hn
        subst hn1
        go_wp2_with fail
        go_ret
        exact ⟨rfl, b6⟩
    obtain ⟨k, hk⟩ : ∃ k, s.size = k + 1 := ⟨s.size - 1, by omega⟩
    have hk1 : k < s.size := by omega
    have t0 : decide (0 < (s.size : Int)) = true := by rw [decide_eq_true_iff]; omega
    have t00 : (0 : Int) < (s.size : Int) := by omega
    have e1 : IntKind.i64.wrap ((s.size : Int) - 1) = (k : Int) := by rw [IntWalk.i64_in _ (by omega)]; omega
    have e2 : (s.size : Int) - 1 = (k : Int) := by omega
    have hl := last_of hk1 hk
    obtain ⟨c, hc⟩ : ∃ c, s[k].toNat = c := ⟨_, rfl⟩
    rw [hc] at hl
    by_cases h1 : c < 48
    · have HL := Lib.hid (CC.out (fun x hx => by
        rw [hl] at hx
        injection hx with hx
        subst hx
        unfold digB; simp; omega))
      have u1 : decide (48 ≤ (c : Int)) = false := by rw [decide_eq_false_iff_not]; omega
      have u11 : ¬ (48 : Int) ≤ (c : Int) := by omega
      clear CC hl
      clear CKN
      go_upto_region 6 with fail
      have b5 : Below w.heap.size w (w2.alloc (.cells #[.int .i64 1, .bool true, .bool false, .bool false] 23)) := b2.alloc b2.size _
      have G5 : (w2.alloc (.cells #[.int .i64 1, .bool true, .bool false, .bool false] 23)).heap[w2.heap.size]? = some (ObjO 1 true false false) := objO_new w2 1 true false false
      obtain ⟨g, hg⟩ : ∃ g, g = w2.heap.size := ⟨_, rfl⟩
      rw [← hg] at G5 ⊢
      obtain ⟨w5, hw5⟩ : ∃ w5, w5 = w2.alloc (.cells #[.int .i64 1, .bool true, .bool false, .bool false] 23) := ⟨_, rfl⟩
      rw [← hw5] at b5 G5 ⊢
      clear hw5 hg b2 tA tB t0 t00
      obtain ⟨c0, c1, c2, c3, _⟩ := objO_cells G5
      have BG : BoxG g 1 true false false w5 := ⟨c0, c1, c2, c3⟩
      go_region_held3 (fun w' => w'.cell? ⟨g, 0, none⟩ = some (.int .i64 1) ∧ w'.cell? ⟨g, 1, none⟩ = some (.bool true) ∧ w'.cell? ⟨g, 2, none⟩ = some (.bool false) ∧ w'.cell? ⟨g, 3, none⟩ = some (.bool false) ∧ BoxG g 1 true false false w') (first
          | exact BoxG.all BG
          | (go_split_ands; exact BoxG.all (BoxG.over (by assumption) bx1))
          | (go_split_ands; exact BoxG.all (BoxG.over (by assumption) bx2))
          | (go_split_ands; exact BoxG.all (BoxG.over (by assumption) bx3)))
        (first
          | (go_at_call 24; (with_reducible refine (D1.out _).mono ?_); rintro e wx1 ⟨ta, rfl, hta, bx1⟩; have k1 : ∀ w : World, (Op.stringOp .add s ta).run Tryd.prog w = .ok (.string (s ++ ta)) w := fun w => run_string_add_sum w _ _ (DS.out ta (.inl hta)))
          | (go_at_call 24; (with_reducible refine (D2.out _).mono ?_); rintro e wx2 ⟨tb, rfl, htb, bx2⟩; have k2 : ∀ w : World, (Op.stringOp .add s tb).run Tryd.prog w = .ok (.string (s ++ tb)) w := fun w => run_string_add_sum w _ _ (DS.out tb (.inr htb)))
          | (go_at_call 20; (with_reducible refine (HL.out ta tb hta htb _).mono ?_); rintro e wx3 ⟨rfl, bx3⟩))
      have x1 : Below w5.heap.size w5 wx1 := (Below.refl w5.heap.size w5).drew.trans bx1
      have x2 := x1.trans (bx2.mono x1.size)
      have x3 := x2.trans (bx3.mono x2.size)
      have b6 := b5.trans (x3.mono b5.size)
      clear x1 x2 x3 bx1 bx2 bx3 b5 G5 BG c0 c1 c2 c3 k1 k2 hta htb HL DS D1 D2 HZ m1 m2
      obtain ⟨n, hn⟩ : ∃ n, n = sgn a b := ⟨_, rfl⟩
      rw [← hn]
      by_cases g1 : a < b
      · have hn1 : n = -1 := by rw [hn]; unfold sgn; rw [if_pos g1]
        have g2 : (a : Int) < (b : Int) := by omega
        have g3 : ¬ (b : Int) < (a : Int) := by omega
        clear hn
        subst hn1
        go_wp2_with fail
        go_ret
        exact ⟨rfl, b6⟩
      by_cases g4 : b < a
      · have hn1 : n = 1 := by rw [hn]; unfold sgn; rw [if_neg g1, if_pos g4]
        have g2 : ¬ (a : Int) < (b : Int) := by omega
        have g3 : (b : Int) < (a : Int) := by omega
        clear hn
        subst hn1
        go_wp2_with fail
        go_ret
        exact ⟨rfl, b6⟩
      · have hn1 : n = 0 := by rw [hn]; unfold sgn; rw [if_neg g1, if_neg g4]
        have g2 : ¬ (a : Int) < (b : Int) := by omega
        have g3 : ¬ (b : Int) < (a : Int) := by omega
        clear hn
        subst hn1
        go_wp2_with fail
        go_ret
        exact ⟨rfl, b6⟩
    have u1 : decide (48 ≤ (c : Int)) = true := by rw [decide_eq_true_iff]; omega
    have u11 : (48 : Int) ≤ (c : Int) := by omega
    by_cases h2 : c ≤ 57
    · have u2 : decide ((c : Int) ≤ 57) = true := by rw [decide_eq_true_iff]; omega
      have u22 : (c : Int) ≤ 57 := by omega
      clear CC hl D1 D2 DS m1 m2 HZ
      go_wp2_with fail
      refine (CKN.out _).mono ?_
      rintro e w3 ⟨rfl, hb3⟩
      have b3 := b2.trans (hb3.mono b2.size)
      clear hb3 b2 CKN
      go_wp2_with fail
      go_ret
      exact ⟨rfl, b3⟩
    · have HL := Lib.hid (CC.out (fun x hx => by
        rw [hl] at hx
        injection hx with hx
        subst hx
        unfold digB; simp; omega))
      have u2 : decide ((c : Int) ≤ 57) = false := by rw [decide_eq_false_iff_not]; omega
      have u22 : ¬ (c : Int) ≤ 57 := by omega
      clear CC hl
      clear CKN
      go_upto_region 6 with fail
      have b5 : Below w.heap.size w (w2.alloc (.cells #[.int .i64 1, .bool true, .bool false, .bool false] 23)) := b2.alloc b2.size _
      have G5 : (w2.alloc (.cells #[.int .i64 1, .bool true, .bool false, .bool false] 23)).heap[w2.heap.size]? = some (ObjO 1 true false false) := objO_new w2 1 true false false
      obtain ⟨g, hg⟩ : ∃ g, g = w2.heap.size := ⟨_, rfl⟩
      rw [← hg] at G5 ⊢
      obtain ⟨w5, hw5⟩ : ∃ w5, w5 = w2.alloc (.cells #[.int .i64 1, .bool true, .bool false, .bool false] 23) := ⟨_, rfl⟩
      rw [← hw5] at b5 G5 ⊢
      clear hw5 hg b2 tA tB t0 t00
      obtain ⟨c0, c1, c2, c3, _⟩ := objO_cells G5
      have BG : BoxG g 1 true false false w5 := ⟨c0, c1, c2, c3⟩
      go_region_held3 (fun w' => w'.cell? ⟨g, 0, none⟩ = some (.int .i64 1) ∧ w'.cell? ⟨g, 1, none⟩ = some (.bool true) ∧ w'.cell? ⟨g, 2, none⟩ = some (.bool false) ∧ w'.cell? ⟨g, 3, none⟩ = some (.bool false) ∧ BoxG g 1 true false false w') (first
          | exact BoxG.all BG
          | (go_split_ands; exact BoxG.all (BoxG.over (by assumption) bx1))
          | (go_split_ands; exact BoxG.all (BoxG.over (by assumption) bx2))
          | (go_split_ands; exact BoxG.all (BoxG.over (by assumption) bx3)))
        (first
          | (go_at_call 24; (with_reducible refine (D1.out _).mono ?_); rintro e wx1 ⟨ta, rfl, hta, bx1⟩; have k1 : ∀ w : World, (Op.stringOp .add s ta).run Tryd.prog w = .ok (.string (s ++ ta)) w := fun w => run_string_add_sum w _ _ (DS.out ta (.inl hta)))
          | (go_at_call 24; (with_reducible refine (D2.out _).mono ?_); rintro e wx2 ⟨tb, rfl, htb, bx2⟩; have k2 : ∀ w : World, (Op.stringOp .add s tb).run Tryd.prog w = .ok (.string (s ++ tb)) w := fun w => run_string_add_sum w _ _ (DS.out tb (.inr htb)))
          | (go_at_call 20; (with_reducible refine (HL.out ta tb hta htb _).mono ?_); rintro e wx3 ⟨rfl, bx3⟩))
      have x1 : Below w5.heap.size w5 wx1 := (Below.refl w5.heap.size w5).drew.trans bx1
      have x2 := x1.trans (bx2.mono x1.size)
      have x3 := x2.trans (bx3.mono x2.size)
      have b6 := b5.trans (x3.mono b5.size)
      clear x1 x2 x3 bx1 bx2 bx3 b5 G5 BG c0 c1 c2 c3 k1 k2 hta htb HL DS D1 D2 HZ m1 m2
      obtain ⟨n, hn⟩ : ∃ n, n = sgn a b := ⟨_, rfl⟩
      rw [← hn]
      by_cases g1 : a < b
      · have hn1 : n = -1 := by rw [hn]; unfold sgn; rw [if_pos g1]
        have g2 : (a : Int) < (b : Int) := by omega
        have g3 : ¬ (b : Int) < (a : Int) := by omega
        clear hn
        subst hn1
        go_wp2_with fail
        go_ret
        exact ⟨rfl, b6⟩
      by_cases g4 : b < a
      · have hn1 : n = 1 := by rw [hn]; unfold sgn; rw [if_neg g1, if_pos g4]
        have g2 : ¬ (a : Int) < (b : Int) := by omega
        have g3 : (b : Int) < (a : Int) := by omega
        clear hn
        subst hn1
        go_wp2_with fail
        go_ret
        exact ⟨rfl, b6⟩
      · have hn1 : n = 0 := by rw [hn]; unfold sgn; rw [if_neg g1, if_neg g4]
        have g2 : ¬ (a : Int) < (b : Int) := by omega
        have g3 : ¬ (b : Int) < (a : Int) := by omega
        clear hn
        subst hn1
        go_wp2_with fail
        go_ret
        exact ⟨rfl, b6⟩
end Go.Proofs.YtknnjnginmkblaaDoor
