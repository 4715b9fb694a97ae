/- Walk: IntervalmapAsks. -/
import Derived.Test.YtpcjklfdgjeamaaC0
import Derived.Test.YtpcjklfdgjeamaaA1
namespace Go.Proofs.Ytpcjklfdgjeamaa
open Go.RowKit

set_option maxRecDepth 100000 in
set_option maxHeartbeats 4000000 in
theorem asks_any (v : Value) (P : PlayD) (o vv : Int) (w : World) (h : IsPlay w v P) :
    Calls Try.prog 9 #[v, .int .i64 o, .int .i64 vv] w fun e w' => e = .returned (.bool true) ∧ Below w.heap.size w w' := by
  obtain ⟨sv, rfl, hpl, hps⟩ := id h
  obtain ⟨Ap, cp, rfl, hp1, hp2, hpz⟩ := hps
  clear hpz
  obtain ⟨W1, hW1⟩ : ∃ W1 : World, W1 = w.alloc (.cells #[.int .u8 P.len, .int .i64 P.val, .slice Ap P.ops.length cp] 35) := ⟨_, rfl⟩
  have bW : Below w.heap.size w W1 := by rw [hW1]; exact (Below.refl _ _).alloc (Nat.le_refl _) _
  have hsz : w.heap.size + 0 < W1.heap.size := by rw [hW1]; simp; try omega
  have hpW := h.over bW
  have HW := Lib.hid hW1.symm
  clear hW1 h
  go_enter Try.func9, Try.ntmps9
  go_wp2_with fail
  rw [HW.out]
  refine (playw_any _ P W1 hpW).mono ?_
  rintro e v0 ⟨m, A, cA, l, rfl, hmW, hM0, hI0, hNI, hlb, bP⟩
  have bw := bW.trans (bP.mono bW.size)
  have hgem : w.heap.size ≤ m := by omega
  clear  bP bW hNI hpW hsz hmW
  go_wp2_with fail
  refine (known_any v0).mono ?_
  rintro e v1 ⟨rfl, b1⟩
  have h2 := bw.trans (b1.mono bw.size)
  have h3 := hM0.below b1
  have h4 := hI0.over b1
  clear bw hM0 hI0 b1
  obtain ⟨X, hX⟩ : ∃ X, X = nxt none l 0 o := ⟨_, rfl⟩
  obtain ⟨Y, hY⟩ : ∃ Y, Y = fnd l 0 o vv := ⟨_, rfl⟩
  have HN1 : Hid (∀ W, MapIs W m l → Calls Try.prog 28 #[.pointer (some ⟨m, 0, none⟩), .int .i64 o] W fun e w' => e = .returned (.tuple #[.int .i64 (max X 0), .bool (decide (0 ≤ X))]) ∧ Below W.heap.size W w') := Lib.hid fun W hW => by rw [hX]; exact nextM_any m l o W hW (by omega)
  have HN2 : Hid (∀ W, MapIs W m l → Calls Try.prog 29 #[.pointer (some ⟨m, 0, none⟩), .int .i64 o, .int .i64 vv] W fun e w' => e = .returned (.tuple #[.int .i64 (max Y 0), .bool (decide (0 ≤ Y))]) ∧ Below W.heap.size W w') := Lib.hid fun W hW => by rw [hY]; exact findM_any m l o vv W hW (by omega)
  have HN3 : Hid (∀ (W : World) lv, IntsV W W.heap.size lv l → Calls Try.prog 30 #[lv, .int .i64 o] W fun e w' => e = .returned (.int .i64 X) ∧ Below W.heap.size W w') := Lib.hid fun W lv hW => by rw [hX]; exact (rnext_any lv l o W hW (by omega)).mono fun e w' ⟨he, k, hw⟩ => ⟨he, by rw [hw]; exact below_drewN (Below.refl _ _) k⟩
  have HN4 : Hid (∀ (W : World) lv, IntsV W W.heap.size lv l → Calls Try.prog 31 #[lv, .int .i64 o, .int .i64 vv] W fun e w' => e = .returned (.int .i64 Y) ∧ W = w') := Lib.hid fun W lv hW => by rw [hY]; exact rfind_any lv l o vv W hW (by omega)
  obtain ⟨n, hn⟩ : ∃ n, n = l.length := ⟨_, rfl⟩
  rw [← hn] at h4 hlb ⊢
  have HN := Lib.hid hn
  clear hn hX hY
  by_cases hk0 : o < 0
  · by_cases hx0 : 0 ≤ X
    · by_cases hy0 : 0 ≤ Y
      · have hXs : 0 ≤ X := by omega
        have hYs : 0 ≤ Y := by omega
        rw [Int.max_eq_left hXs, decide_eq_true hXs] at HN1
        rw [Int.max_eq_left hYs, decide_eq_true hYs] at HN2
        go_wp2_with fail
        refine (at_none m l o v1 h3 (by have := HN.out; omega)).mono ?_
        rintro e v2 ⟨rfl, b5⟩
        have h6 := h2.trans (b5.mono h2.size)
        have h7 := h3.below b5
        have h8 := h4.over b5
        clear h2 h3 h4 b5
        go_wp2_with fail
        refine (HN1.out v2 h7).mono ?_
        rintro e v3 ⟨rfl, b9⟩
        have h10 := h6.trans (b9.mono h6.size)
        have h11 := h7.below b9
        have h12 := h8.over b9
        clear h6 h7 h8 b9
        go_wp2_with fail
        refine (HN2.out v3 h11).mono ?_
        rintro e v4 ⟨rfl, b13⟩
        have h14 := h10.trans (b13.mono h10.size)
        have h15 := h11.below b13
        have h16 := h12.over b13
        clear h10 h11 h12 b13
        go_wp2_with fail
        refine (HN3.out v4 _ h16).mono ?_
        rintro e v5 ⟨rfl, b17⟩
        have h18 := h14.trans (b17.mono h14.size)
        have h19 := h15.below b17
        have h20 := h16.over b17
        clear h14 h15 h16 b17
        go_wp2_with fail
        refine (HN4.out v5 _ h20).mono ?_
        rintro e w9 ⟨rfl, rfl⟩
        go_wp2
        go_ret
        exact ⟨rfl, h18⟩
      · have hXs : 0 ≤ X := by omega
        have hYs : Y < 0 := by omega
        have dY : decide (0 ≤ Y) = false := decide_eq_false (by omega)
        rw [Int.max_eq_left hXs, decide_eq_true hXs] at HN1
        rw [Int.max_eq_right (by omega), decide_eq_false (by omega)] at HN2
        go_wp2_with fail
        refine (at_none m l o v1 h3 (by have := HN.out; omega)).mono ?_
        rintro e v2 ⟨rfl, b5⟩
        have h6 := h2.trans (b5.mono h2.size)
        have h7 := h3.below b5
        have h8 := h4.over b5
        clear h2 h3 h4 b5
        go_wp2_with fail
        refine (HN1.out v2 h7).mono ?_
        rintro e v3 ⟨rfl, b9⟩
        have h10 := h6.trans (b9.mono h6.size)
        have h11 := h7.below b9
        have h12 := h8.over b9
        clear h6 h7 h8 b9
        go_wp2_with fail
        refine (HN2.out v3 h11).mono ?_
        rintro e v4 ⟨rfl, b13⟩
        have h14 := h10.trans (b13.mono h10.size)
        have h15 := h11.below b13
        have h16 := h12.over b13
        clear h10 h11 h12 b13
        go_wp2_with fail
        refine (HN3.out v4 _ h16).mono ?_
        rintro e v5 ⟨rfl, b17⟩
        have h18 := h14.trans (b17.mono h14.size)
        have h19 := h15.below b17
        have h20 := h16.over b17
        clear h14 h15 h16 b17
        go_wp2_with fail
        refine (HN4.out v5 _ h20).mono ?_
        rintro e w9 ⟨rfl, rfl⟩
        go_wp2
        go_ret
        exact ⟨rfl, h18⟩
    · by_cases hy0 : 0 ≤ Y
      · have hXs : X < 0 := by omega
        have hYs : 0 ≤ Y := by omega
        have dX : decide (0 ≤ X) = false := decide_eq_false (by omega)
        rw [Int.max_eq_right (by omega), decide_eq_false (by omega)] at HN1
        rw [Int.max_eq_left hYs, decide_eq_true hYs] at HN2
        go_wp2_with fail
        refine (at_none m l o v1 h3 (by have := HN.out; omega)).mono ?_
        rintro e v2 ⟨rfl, b5⟩
        have h6 := h2.trans (b5.mono h2.size)
        have h7 := h3.below b5
        have h8 := h4.over b5
        clear h2 h3 h4 b5
        go_wp2_with fail
        refine (HN1.out v2 h7).mono ?_
        rintro e v3 ⟨rfl, b9⟩
        have h10 := h6.trans (b9.mono h6.size)
        have h11 := h7.below b9
        have h12 := h8.over b9
        clear h6 h7 h8 b9
        go_wp2_with fail
        refine (HN2.out v3 h11).mono ?_
        rintro e v4 ⟨rfl, b13⟩
        have h14 := h10.trans (b13.mono h10.size)
        have h15 := h11.below b13
        have h16 := h12.over b13
        clear h10 h11 h12 b13
        go_wp2_with fail
        refine (HN3.out v4 _ h16).mono ?_
        rintro e v5 ⟨rfl, b17⟩
        have h18 := h14.trans (b17.mono h14.size)
        have h19 := h15.below b17
        have h20 := h16.over b17
        clear h14 h15 h16 b17
        go_wp2_with fail
        refine (HN4.out v5 _ h20).mono ?_
        rintro e w9 ⟨rfl, rfl⟩
        go_wp2
        go_ret
        exact ⟨rfl, h18⟩
      · have hXs : X < 0 := by omega
        have hYs : Y < 0 := by omega
        have dX : decide (0 ≤ X) = false := decide_eq_false (by omega)
        have dY : decide (0 ≤ Y) = false := decide_eq_false (by omega)
        rw [Int.max_eq_right (by omega), decide_eq_false (by omega)] at HN1
        rw [Int.max_eq_right (by omega), decide_eq_false (by omega)] at HN2
        go_wp2_with fail
        refine (at_none m l o v1 h3 (by have := HN.out; omega)).mono ?_
        rintro e v2 ⟨rfl, b5⟩
        have h6 := h2.trans (b5.mono h2.size)
        have h7 := h3.below b5
        have h8 := h4.over b5
        clear h2 h3 h4 b5
        go_wp2_with fail
        refine (HN1.out v2 h7).mono ?_
        rintro e v3 ⟨rfl, b9⟩
        have h10 := h6.trans (b9.mono h6.size)
        have h11 := h7.below b9
        have h12 := h8.over b9
        clear h6 h7 h8 b9
        go_wp2_with fail
        refine (HN2.out v3 h11).mono ?_
        rintro e v4 ⟨rfl, b13⟩
        have h14 := h10.trans (b13.mono h10.size)
        have h15 := h11.below b13
        have h16 := h12.over b13
        clear h10 h11 h12 b13
        go_wp2_with fail
        refine (HN3.out v4 _ h16).mono ?_
        rintro e v5 ⟨rfl, b17⟩
        have h18 := h14.trans (b17.mono h14.size)
        have h19 := h15.below b17
        have h20 := h16.over b17
        clear h14 h15 h16 b17
        go_wp2_with fail
        refine (HN4.out v5 _ h20).mono ?_
        rintro e w9 ⟨rfl, rfl⟩
        go_wp2
        go_ret
        exact ⟨rfl, h18⟩
  by_cases hk1 : (n : Int) ≤ o
  · by_cases hx0 : 0 ≤ X
    · by_cases hy0 : 0 ≤ Y
      · have hXs : 0 ≤ X := by omega
        have hYs : 0 ≤ Y := by omega
        rw [Int.max_eq_left hXs, decide_eq_true hXs] at HN1
        rw [Int.max_eq_left hYs, decide_eq_true hYs] at HN2
        go_wp2_with fail
        refine (at_none m l o v1 h3 (by have := HN.out; omega)).mono ?_
        rintro e v2 ⟨rfl, b5⟩
        have h6 := h2.trans (b5.mono h2.size)
        have h7 := h3.below b5
        have h8 := h4.over b5
        clear h2 h3 h4 b5
        go_wp2_with fail
        refine (HN1.out v2 h7).mono ?_
        rintro e v3 ⟨rfl, b9⟩
        have h10 := h6.trans (b9.mono h6.size)
        have h11 := h7.below b9
        have h12 := h8.over b9
        clear h6 h7 h8 b9
        go_wp2_with fail
        refine (HN2.out v3 h11).mono ?_
        rintro e v4 ⟨rfl, b13⟩
        have h14 := h10.trans (b13.mono h10.size)
        have h15 := h11.below b13
        have h16 := h12.over b13
        clear h10 h11 h12 b13
        go_wp2_with fail
        refine (HN3.out v4 _ h16).mono ?_
        rintro e v5 ⟨rfl, b17⟩
        have h18 := h14.trans (b17.mono h14.size)
        have h19 := h15.below b17
        have h20 := h16.over b17
        clear h14 h15 h16 b17
        go_wp2_with fail
        refine (HN4.out v5 _ h20).mono ?_
        rintro e w9 ⟨rfl, rfl⟩
        go_wp2
        go_ret
        exact ⟨rfl, h18⟩
      · have hXs : 0 ≤ X := by omega
        have hYs : Y < 0 := by omega
        have dY : decide (0 ≤ Y) = false := decide_eq_false (by omega)
        rw [Int.max_eq_left hXs, decide_eq_true hXs] at HN1
        rw [Int.max_eq_right (by omega), decide_eq_false (by omega)] at HN2
        go_wp2_with fail
        refine (at_none m l o v1 h3 (by have := HN.out; omega)).mono ?_
        rintro e v2 ⟨rfl, b5⟩
        have h6 := h2.trans (b5.mono h2.size)
        have h7 := h3.below b5
        have h8 := h4.over b5
        clear h2 h3 h4 b5
        go_wp2_with fail
        refine (HN1.out v2 h7).mono ?_
        rintro e v3 ⟨rfl, b9⟩
        have h10 := h6.trans (b9.mono h6.size)
        have h11 := h7.below b9
        have h12 := h8.over b9
        clear h6 h7 h8 b9
        go_wp2_with fail
        refine (HN2.out v3 h11).mono ?_
        rintro e v4 ⟨rfl, b13⟩
        have h14 := h10.trans (b13.mono h10.size)
        have h15 := h11.below b13
        have h16 := h12.over b13
        clear h10 h11 h12 b13
        go_wp2_with fail
        refine (HN3.out v4 _ h16).mono ?_
        rintro e v5 ⟨rfl, b17⟩
        have h18 := h14.trans (b17.mono h14.size)
        have h19 := h15.below b17
        have h20 := h16.over b17
        clear h14 h15 h16 b17
        go_wp2_with fail
        refine (HN4.out v5 _ h20).mono ?_
        rintro e w9 ⟨rfl, rfl⟩
        go_wp2
        go_ret
        exact ⟨rfl, h18⟩
    · by_cases hy0 : 0 ≤ Y
      · have hXs : X < 0 := by omega
        have hYs : 0 ≤ Y := by omega
        have dX : decide (0 ≤ X) = false := decide_eq_false (by omega)
        rw [Int.max_eq_right (by omega), decide_eq_false (by omega)] at HN1
        rw [Int.max_eq_left hYs, decide_eq_true hYs] at HN2
        go_wp2_with fail
        refine (at_none m l o v1 h3 (by have := HN.out; omega)).mono ?_
        rintro e v2 ⟨rfl, b5⟩
        have h6 := h2.trans (b5.mono h2.size)
        have h7 := h3.below b5
        have h8 := h4.over b5
        clear h2 h3 h4 b5
        go_wp2_with fail
        refine (HN1.out v2 h7).mono ?_
        rintro e v3 ⟨rfl, b9⟩
        have h10 := h6.trans (b9.mono h6.size)
        have h11 := h7.below b9
        have h12 := h8.over b9
        clear h6 h7 h8 b9
        go_wp2_with fail
        refine (HN2.out v3 h11).mono ?_
        rintro e v4 ⟨rfl, b13⟩
        have h14 := h10.trans (b13.mono h10.size)
        have h15 := h11.below b13
        have h16 := h12.over b13
        clear h10 h11 h12 b13
        go_wp2_with fail
        refine (HN3.out v4 _ h16).mono ?_
        rintro e v5 ⟨rfl, b17⟩
        have h18 := h14.trans (b17.mono h14.size)
        have h19 := h15.below b17
        have h20 := h16.over b17
        clear h14 h15 h16 b17
        go_wp2_with fail
        refine (HN4.out v5 _ h20).mono ?_
        rintro e w9 ⟨rfl, rfl⟩
        go_wp2
        go_ret
        exact ⟨rfl, h18⟩
      · have hXs : X < 0 := by omega
        have hYs : Y < 0 := by omega
        have dX : decide (0 ≤ X) = false := decide_eq_false (by omega)
        have dY : decide (0 ≤ Y) = false := decide_eq_false (by omega)
        rw [Int.max_eq_right (by omega), decide_eq_false (by omega)] at HN1
        rw [Int.max_eq_right (by omega), decide_eq_false (by omega)] at HN2
        go_wp2_with fail
        refine (at_none m l o v1 h3 (by have := HN.out; omega)).mono ?_
        rintro e v2 ⟨rfl, b5⟩
        have h6 := h2.trans (b5.mono h2.size)
        have h7 := h3.below b5
        have h8 := h4.over b5
        clear h2 h3 h4 b5
        go_wp2_with fail
        refine (HN1.out v2 h7).mono ?_
        rintro e v3 ⟨rfl, b9⟩
        have h10 := h6.trans (b9.mono h6.size)
        have h11 := h7.below b9
        have h12 := h8.over b9
        clear h6 h7 h8 b9
        go_wp2_with fail
        refine (HN2.out v3 h11).mono ?_
        rintro e v4 ⟨rfl, b13⟩
        have h14 := h10.trans (b13.mono h10.size)
        have h15 := h11.below b13
        have h16 := h12.over b13
        clear h10 h11 h12 b13
        go_wp2_with fail
        refine (HN3.out v4 _ h16).mono ?_
        rintro e v5 ⟨rfl, b17⟩
        have h18 := h14.trans (b17.mono h14.size)
        have h19 := h15.below b17
        have h20 := h16.over b17
        clear h14 h15 h16 b17
        go_wp2_with fail
        refine (HN4.out v5 _ h20).mono ?_
        rintro e w9 ⟨rfl, rfl⟩
        go_wp2
        go_ret
        exact ⟨rfl, h18⟩
  obtain ⟨p, hp⟩ := Int.eq_ofNat_of_zero_le (show 0 ≤ o by omega)
  subst hp
  by_cases hx0 : 0 ≤ X
  · by_cases hy0 : 0 ≤ Y
    · have hXs : 0 ≤ X := by omega
      have hYs : 0 ≤ Y := by omega
      rw [Int.max_eq_left hXs, decide_eq_true hXs] at HN1
      rw [Int.max_eq_left hYs, decide_eq_true hYs] at HN2
      go_wp2_with fail
      refine (at_some m l p v1 h3 (by have := HN.out; omega) (by have := HN.out; omega)).mono ?_
      rintro e v2 ⟨rfl, b5⟩
      have h6 := h2.trans (b5.mono h2.size)
      have h7 := h3.below b5
      have h8 := h4.over b5
      clear h2 h3 h4 b5
      obtain ⟨A9, c9, he9, hc91, hc92, hr9⟩ := h8.ints
      injection he9 with he91 he92 he93
      obtain ⟨b9, o9, hA9, _, g9⟩ := hr9 p (by have := HN.out; omega)
      subst he91 hA9
      obtain ⟨x, hx⟩ : ∃ x, x = l[p]'(by have := HN.out; omega) := ⟨_, rfl⟩
      rw [← hx] at g9 ⊢
      have hxx : (x != x) = false := by simp
      have hpc : (p : Int) < (n : Int) := by omega
      clear hx he92 he93 hr9 hc91 hc92
      go_wp2_with fail
      refine (HN1.out v2 h7).mono ?_
      rintro e v3 ⟨rfl, b9⟩
      have h10 := h6.trans (b9.mono h6.size)
      have h11 := h7.below b9
      have h12 := h8.over b9
      have h13 := cell_over g9 b9
      clear h6 h7 h8 g9 b9
      go_wp2_with fail
      refine (HN2.out v3 h11).mono ?_
      rintro e v4 ⟨rfl, b14⟩
      have h15 := h10.trans (b14.mono h10.size)
      have h16 := h11.below b14
      have h17 := h12.over b14
      have h18 := cell_over h13 b14
      clear h10 h11 h12 h13 b14
      go_wp2_with fail
      refine (HN3.out v4 _ h17).mono ?_
      rintro e v5 ⟨rfl, b19⟩
      have h20 := h15.trans (b19.mono h15.size)
      have h21 := h16.below b19
      have h22 := h17.over b19
      have h23 := cell_over h18 b19
      clear h15 h16 h17 h18 b19
      go_wp2_with fail
      refine (HN4.out v5 _ h22).mono ?_
      rintro e w9 ⟨rfl, rfl⟩
      go_wp2
      go_ret
      exact ⟨rfl, h20⟩
    · have hXs : 0 ≤ X := by omega
      have hYs : Y < 0 := by omega
      have dY : decide (0 ≤ Y) = false := decide_eq_false (by omega)
      rw [Int.max_eq_left hXs, decide_eq_true hXs] at HN1
      rw [Int.max_eq_right (by omega), decide_eq_false (by omega)] at HN2
      go_wp2_with fail
      refine (at_some m l p v1 h3 (by have := HN.out; omega) (by have := HN.out; omega)).mono ?_
      rintro e v2 ⟨rfl, b5⟩
      have h6 := h2.trans (b5.mono h2.size)
      have h7 := h3.below b5
      have h8 := h4.over b5
      clear h2 h3 h4 b5
      obtain ⟨A9, c9, he9, hc91, hc92, hr9⟩ := h8.ints
      injection he9 with he91 he92 he93
      obtain ⟨b9, o9, hA9, _, g9⟩ := hr9 p (by have := HN.out; omega)
      subst he91 hA9
      obtain ⟨x, hx⟩ : ∃ x, x = l[p]'(by have := HN.out; omega) := ⟨_, rfl⟩
      rw [← hx] at g9 ⊢
      have hxx : (x != x) = false := by simp
      have hpc : (p : Int) < (n : Int) := by omega
      clear hx he92 he93 hr9 hc91 hc92
      go_wp2_with fail
      refine (HN1.out v2 h7).mono ?_
      rintro e v3 ⟨rfl, b9⟩
      have h10 := h6.trans (b9.mono h6.size)
      have h11 := h7.below b9
      have h12 := h8.over b9
      have h13 := cell_over g9 b9
      clear h6 h7 h8 g9 b9
      go_wp2_with fail
      refine (HN2.out v3 h11).mono ?_
      rintro e v4 ⟨rfl, b14⟩
      have h15 := h10.trans (b14.mono h10.size)
      have h16 := h11.below b14
      have h17 := h12.over b14
      have h18 := cell_over h13 b14
      clear h10 h11 h12 h13 b14
      go_wp2_with fail
      refine (HN3.out v4 _ h17).mono ?_
      rintro e v5 ⟨rfl, b19⟩
      have h20 := h15.trans (b19.mono h15.size)
      have h21 := h16.below b19
      have h22 := h17.over b19
      have h23 := cell_over h18 b19
      clear h15 h16 h17 h18 b19
      go_wp2_with fail
      refine (HN4.out v5 _ h22).mono ?_
      rintro e w9 ⟨rfl, rfl⟩
      go_wp2
      go_ret
      exact ⟨rfl, h20⟩
  · by_cases hy0 : 0 ≤ Y
    · have hXs : X < 0 := by omega
      have hYs : 0 ≤ Y := by omega
      have dX : decide (0 ≤ X) = false := decide_eq_false (by omega)
      rw [Int.max_eq_right (by omega), decide_eq_false (by omega)] at HN1
      rw [Int.max_eq_left hYs, decide_eq_true hYs] at HN2
      go_wp2_with fail
      refine (at_some m l p v1 h3 (by have := HN.out; omega) (by have := HN.out; omega)).mono ?_
      rintro e v2 ⟨rfl, b5⟩
      have h6 := h2.trans (b5.mono h2.size)
      have h7 := h3.below b5
      have h8 := h4.over b5
      clear h2 h3 h4 b5
      obtain ⟨A9, c9, he9, hc91, hc92, hr9⟩ := h8.ints
      injection he9 with he91 he92 he93
      obtain ⟨b9, o9, hA9, _, g9⟩ := hr9 p (by have := HN.out; omega)
      subst he91 hA9
      obtain ⟨x, hx⟩ : ∃ x, x = l[p]'(by have := HN.out; omega) := ⟨_, rfl⟩
      rw [← hx] at g9 ⊢
      have hxx : (x != x) = false := by simp
      have hpc : (p : Int) < (n : Int) := by omega
      clear hx he92 he93 hr9 hc91 hc92
      go_wp2_with fail
      refine (HN1.out v2 h7).mono ?_
      rintro e v3 ⟨rfl, b9⟩
      have h10 := h6.trans (b9.mono h6.size)
      have h11 := h7.below b9
      have h12 := h8.over b9
      have h13 := cell_over g9 b9
      clear h6 h7 h8 g9 b9
      go_wp2_with fail
      refine (HN2.out v3 h11).mono ?_
      rintro e v4 ⟨rfl, b14⟩
      have h15 := h10.trans (b14.mono h10.size)
      have h16 := h11.below b14
      have h17 := h12.over b14
      have h18 := cell_over h13 b14
      clear h10 h11 h12 h13 b14
      go_wp2_with fail
      refine (HN3.out v4 _ h17).mono ?_
      rintro e v5 ⟨rfl, b19⟩
      have h20 := h15.trans (b19.mono h15.size)
      have h21 := h16.below b19
      have h22 := h17.over b19
      have h23 := cell_over h18 b19
      clear h15 h16 h17 h18 b19
      go_wp2_with fail
      refine (HN4.out v5 _ h22).mono ?_
      rintro e w9 ⟨rfl, rfl⟩
      go_wp2
      go_ret
      exact ⟨rfl, h20⟩
    · have hXs : X < 0 := by omega
      have hYs : Y < 0 := by omega
      have dX : decide (0 ≤ X) = false := decide_eq_false (by omega)
      have dY : decide (0 ≤ Y) = false := decide_eq_false (by omega)
      rw [Int.max_eq_right (by omega), decide_eq_false (by omega)] at HN1
      rw [Int.max_eq_right (by omega), decide_eq_false (by omega)] at HN2
      go_wp2_with fail
      refine (at_some m l p v1 h3 (by have := HN.out; omega) (by have := HN.out; omega)).mono ?_
      rintro e v2 ⟨rfl, b5⟩
      have h6 := h2.trans (b5.mono h2.size)
      have h7 := h3.below b5
      have h8 := h4.over b5
      clear h2 h3 h4 b5
      obtain ⟨A9, c9, he9, hc91, hc92, hr9⟩ := h8.ints
      injection he9 with he91 he92 he93
      obtain ⟨b9, o9, hA9, _, g9⟩ := hr9 p (by have := HN.out; omega)
      subst he91 hA9
      obtain ⟨x, hx⟩ : ∃ x, x = l[p]'(by have := HN.out; omega) := ⟨_, rfl⟩
      rw [← hx] at g9 ⊢
      have hxx : (x != x) = false := by simp
      have hpc : (p : Int) < (n : Int) := by omega
      clear hx he92 he93 hr9 hc91 hc92
      go_wp2_with fail
      refine (HN1.out v2 h7).mono ?_
      rintro e v3 ⟨rfl, b9⟩
      have h10 := h6.trans (b9.mono h6.size)
      have h11 := h7.below b9
      have h12 := h8.over b9
      have h13 := cell_over g9 b9
      clear h6 h7 h8 g9 b9
      go_wp2_with fail
      refine (HN2.out v3 h11).mono ?_
      rintro e v4 ⟨rfl, b14⟩
      have h15 := h10.trans (b14.mono h10.size)
      have h16 := h11.below b14
      have h17 := h12.over b14
      have h18 := cell_over h13 b14
      clear h10 h11 h12 h13 b14
      go_wp2_with fail
      refine (HN3.out v4 _ h17).mono ?_
      rintro e v5 ⟨rfl, b19⟩
      have h20 := h15.trans (b19.mono h15.size)
      have h21 := h16.below b19
      have h22 := h17.over b19
      have h23 := cell_over h18 b19
      clear h15 h16 h17 h18 b19
      go_wp2_with fail
      refine (HN4.out v5 _ h22).mono ?_
      rintro e w9 ⟨rfl, rfl⟩
      go_wp2
      go_ret
      exact ⟨rfl, h20⟩
end Go.Proofs.Ytpcjklfdgjeamaa
