/- Walks: two runs merged in place, one of them of one element. -/
import Derived.Test.YtknnjnginmkblaaDoorS1
namespace Go.Proofs.YtknnjnginmkblaaDoor
section
open Go.RowKit

theorem ArrD.pairK {g : Nat} {L : List Dec} {w : World} (h : ArrD g L w) {i j : Nat} {x y : Dec} (hi : L[i]? = some x) (hj : L[j]? = some y) : PairK g i j x y w :=
  ⟨(h.cells hi).1, (h.cells hi).2.1, (h.cells hj).1, (h.cells hj).2.1⟩
def SrL (Y : List Dec) (x : Dec) (m i j : Nat) : Prop := (i = m ∨ cfD Y[i - m - 1]! x < 0) ∧ (j = m + Y.length ∨ ¬ cfD Y[j - m]! x < 0)
def SrR (X : List Dec) (y : Dec) (a i j : Nat) : Prop := (i = a ∨ ¬ cfD y X[i - a - 1]! < 0) ∧ (j = a + X.length ∨ cfD y X[j - a]! < 0)
theorem half {i j N : Nat} (h : i < j) (hN : j ≤ N) (hN2 : N ≤ 1048576) : ∃ c : Nat, i ≤ c ∧ c < j ∧ IntKind.i64.wrap ((i : Int) + (j : Int)) = (i : Int) + (j : Int) ∧ IntKind.u64.wrap ((i : Int) + (j : Int)) = (i : Int) + (j : Int) ∧ ((i : Int) + (j : Int)) / 2 = (c : Int) ∧ IntKind.i64.wrap (c : Int) = (c : Int) ∧ Hid (c = (i + j) / 2) :=
  ⟨(i + j) / 2, by omega, by omega, IntWalk.i64_in _ (by omega), IntWalk.u64_in _ (by omega), by omega, IntWalk.i64_in _ (by omega), Lib.hid rfl⟩

set_option maxRecDepth 100000 in
set_option maxHeartbeats 8000000 in
theorem symL_lib (g cap a m b N : Nat) (A Y B : List Dec) (x : Dec) (w : World) (h : ArrD g (A ++ (x :: (Y ++ B))) w) (hN : N = (A ++ (x :: (Y ++ B))).length) (ha : a = A.length) (hm : m = a + 1) (hb : b = m + Y.length) (hy : Srt cfD Y) (hNb : N ≤ 1048576) :
    Calls Tryd.prog 83 #[.slice (some ⟨g, 0, none⟩) N cap, .int .i64 (a : Int), .int .i64 (m : Int), .int .i64 (b : Int), fnD] w (SortE g A (x :: Y) B w) := by
  have hbN : b ≤ N := by rw [hN]; simp only [List.length_append, List.length_cons]; omega
  have e0 : IntKind.i64.wrap ((m : Int) - (a : Int)) = 1 := by rw [IntWalk.i64_in _ (by omega)]; omega
  have HF : Hid (a = A.length ∧ m = a + 1 ∧ b = m + Y.length ∧ Srt cfD Y ∧ N = (A ++ (x :: (Y ++ B))).length) := Lib.hid ⟨ha, hm, hb, hy, hN⟩
  have H0 : Hid (ArrD g (A ++ (x :: (Y ++ B))) w ∧ w.grownBy w (some g)) := Lib.hid ⟨h, grown_refl _ _⟩
  have hS0 : Hid (SrL Y x m m b) := Lib.hid ⟨.inl rfl, .inl hb⟩
  have ham : a < m := by omega
  have hmb : m ≤ b := by omega
  have laN : (a : Int) < (N : Int) := by omega
  clear h hN ha hm hb hy
  go_enter Tryd.func83, Tryd.ntmps83
  go_wp2_with fail
  go_loopw [10, 11] (fun iv jv wr => ∃ i j : Nat, m ≤ i ∧ i ≤ j ∧ j ≤ b ∧ iv = .int .i64 (i : Int) ∧ jv = .int .i64 (j : Int) ∧ Hid (SrL Y x m i j) ∧ Hid (ArrD g (A ++ (x :: (Y ++ B))) wr ∧ w.grownBy wr (some g))) (fun iv jv _ => (intOf jv - intOf iv).toNat)
  case atStart => exact ⟨m, b, Nat.le_refl _, hmb, Nat.le_refl _, rfl, rfl, hS0, H0⟩
  case round =>
    obtain ⟨i, j, hmi, hij, hjb, rfl, rfl, HS, HA⟩ := hrel
    clear H0 hS0
    by_cases hlt : i < j
    · obtain ⟨c, hic, hcj, e1, e2, e3, e4, _⟩ := half hlt (Nat.le_trans hjb hbN) hNb
      obtain ⟨y, hyc⟩ : ∃ y, Y[c - m]? = some y := ⟨Y[c - m]'(by have := HF.out; omega), by simp⟩
      have hLc : (A ++ (x :: (Y ++ B)))[c]? = some y := by
        have h5 := HF.out
        rw [List.getElem?_append_right (by omega), show c - A.length = (c - m) + 1 by omega, List.getElem?_cons_succ, List.getElem?_append_left (by omega)]
        exact hyc
      have hLa : (A ++ (x :: (Y ++ B)))[a]? = some x := by
        have h5 := HF.out
        rw [h5.1]; simp
      have BG := HA.out.1.pairK hLa hLc
      have hyv : Y[c - m]! = y := by rw [List.getElem!_eq_getElem?_getD, hyc]; rfl
      obtain ⟨z, hz⟩ : ∃ z, z = cfD y x := ⟨_, rfl⟩
      have HC := Lib.hid (sortcmp_lib y x)
      have HZ : Hid (z = cfD Y[c - m]! x) := Lib.hid (by rw [hyv]; exact hz)
      rw [← hz] at HC
      have lcN : (c : Int) < (N : Int) := by omega
      clear hz hyv hLa hLc hyc
      obtain ⟨x1, x2⟩ := x
      obtain ⟨y1, y2⟩ := y
      obtain ⟨c1, c2, c3, c4, _⟩ := BG.all
      by_cases h0 : z < 0
      · have d0 : decide (z < 0) = true := by simpa using h0
        have HS2 : Hid (SrL Y (x1, x2) m (c + 1) j) := Lib.hid ⟨.inr (by rw [show c + 1 - m - 1 = c - m by omega, ← HZ.out]; exact h0), HS.out.2⟩
        go_wp2_with fail
        go_region_held3 (fun w' => w'.cell? ⟨g, a * 2, none⟩ = some (.string x1) ∧ w'.cell? ⟨g, a * 2 + 1, none⟩ = some (.string x2) ∧ w'.cell? ⟨g, c * 2, none⟩ = some (.string y1) ∧ w'.cell? ⟨g, c * 2 + 1, none⟩ = some (.string y2) ∧ PairK g a c (x1, x2) (y1, y2) w') (first
            | exact PairK.all BG
            | (go_split_ands; exact PairK.all (PairK.over (by assumption) bx1)))
            (first
            | (go_at_call 50; (with_reducible refine (HC.out _).mono ?_); rintro e wx1 ⟨rfl, bx1⟩))
        have bx : Below wr.heap.size wr wx1 := (Below.refl _ wr).drew.trans bx1
        have HA2 : Hid (ArrD g (A ++ ((x1, x2) :: (Y ++ B))) wx1 ∧ w.grownBy wx1 (some g)) := Lib.hid ⟨HA.out.1.over bx, grown_below HA.out.2 bx⟩
        clear HA HC BG bx1 bx c1 c2 c3 c4
        go_wp2_with fail
        go_roundw
        case rel => exact ⟨c + 1, j, by omega, by omega, hjb, by go_num, rfl, HS2, HA2⟩
        case measure => simp [intOf]; omega
      · have d0 : decide (z < 0) = false := by simpa using h0
        have HS2 : Hid (SrL Y (x1, x2) m i c) := Lib.hid ⟨HS.out.1, .inr (by rw [← HZ.out]; exact h0)⟩
        go_wp2_with fail
        go_region_held3 (fun w' => w'.cell? ⟨g, a * 2, none⟩ = some (.string x1) ∧ w'.cell? ⟨g, a * 2 + 1, none⟩ = some (.string x2) ∧ w'.cell? ⟨g, c * 2, none⟩ = some (.string y1) ∧ w'.cell? ⟨g, c * 2 + 1, none⟩ = some (.string y2) ∧ PairK g a c (x1, x2) (y1, y2) w') (first
            | exact PairK.all BG
            | (go_split_ands; exact PairK.all (PairK.over (by assumption) bx1)))
            (first
            | (go_at_call 50; (with_reducible refine (HC.out _).mono ?_); rintro e wx1 ⟨rfl, bx1⟩))
        have bx : Below wr.heap.size wr wx1 := (Below.refl _ wr).drew.trans bx1
        have HA2 : Hid (ArrD g (A ++ ((x1, x2) :: (Y ++ B))) wx1 ∧ w.grownBy wx1 (some g)) := Lib.hid ⟨HA.out.1.over bx, grown_below HA.out.2 bx⟩
        clear HA HC BG bx1 bx c1 c2 c3 c4
        go_wp2_with fail
        go_roundw
        case rel => exact ⟨i, c, hmi, hic, by omega, rfl, rfl, HS2, HA2⟩
        case measure => simp [intOf]; omega
    · have hij2 : i = j := by omega
      subst hij2
      obtain ⟨p, hp⟩ : ∃ p, p = i - m := ⟨_, rfl⟩
      have HM : Hid (Srt cfD (Y.take p ++ x :: Y.drop p) ∧ Same cfD (x :: Y) (Y.take p ++ x :: Y.drop p) ∧ p ≤ Y.length) := Lib.hid (by
        obtain ⟨f1, f2, f3, f4, f5⟩ := HF.out
        obtain ⟨s1, s2⟩ := HS.out
        have hpl : p ≤ Y.length := by omega
        have hs := search_left cfD_ordr (x := x) (p := p) f4 hpl (by
          rcases s1 with s1 | s1
          · exact .inl (by omega)
          · rw [hp]; exact .inr s1) (by
          rcases s2 with s2 | s2
          · exact .inl (by omega)
          · rw [hp]; exact .inr s2)
        have hml := merge_left cfD_ordr (x := x) (Y1 := Y.take p) (Y2 := Y.drop p) (by rw [List.take_append_drop]; exact f4) hs.1 hs.2
        rw [List.take_append_drop] at hml
        exact ⟨hml.1, hml.2, hpl⟩)
      have e5 : IntKind.i64.wrap ((i : Int) - 1) = ((a + p : Nat) : Int) := by
        have := HF.out
        rw [IntWalk.i64_in _ (by omega)]; omega
      obtain ⟨q, hq⟩ : ∃ q, q = a + p := ⟨_, rfl⟩
      rw [← hq] at e5
      have HA1 : Hid (ArrD g (A ++ (Y.take 0 ++ x :: (Y.drop 0 ++ B))) wr ∧ w.grownBy wr (some g)) := Lib.hid (by simpa using HA.out)
      have hqN : q < N := by have := HF.out; omega
      have haq : a ≤ q := by omega
      have HP := Lib.hid hq
      clear HA HS hp hq
      have hlt' : ¬ (i : Int) < (i : Int) := by omega
      go_wp2_with fail
      go_loopw [13] (fun kv wr => ∃ t k : Nat, k = a + t ∧ k ≤ q ∧ kv = .int .i64 (k : Int) ∧ Hid (ArrD g (A ++ (Y.take t ++ x :: (Y.drop t ++ B))) wr ∧ w.grownBy wr (some g))) (fun kv _ => q - (intOf kv).toNat)
      case atStart => exact ⟨0, a, rfl, haq, rfl, HA1⟩
      case round =>
        obtain ⟨t, k, hkt, hkq, rfl, HA⟩ := hrel
        clear HA1
        by_cases hkl : k < q
        · have hkl' : (k : Int) < (q : Int) := by omega
          obtain ⟨y, hyt⟩ : ∃ y, Y[t]? = some y := ⟨Y[t]'(by have := HM.out.2.2; have := HP.out; omega), by simp⟩
          have htl := (List.getElem?_eq_some_iff.1 hyt).1
          have ed : Y.drop t = y :: Y.drop (t + 1) := by rw [List.drop_eq_getElem_cons htl, (List.getElem?_eq_some_iff.1 hyt).2]
          have et : Y.take (t + 1) = Y.take t ++ [y] := by rw [List.take_add_one, hyt]; rfl
          have hA' : ArrD g ((A ++ Y.take t) ++ x :: y :: (Y.drop (t + 1) ++ B)) wr := by
            have := HA.out.1
            rw [ed] at this
            simpa using this
          obtain ⟨k2, hk2⟩ : ∃ k2, k2 = k + 1 := ⟨_, rfl⟩
          obtain ⟨⟨c1, c2, f1, f2⟩, ⟨c3, c4, f3, f4⟩, HS, _⟩ := hA'.pair (i := k) (j := k2) (by have := HF.out; rw [List.length_append, List.length_take]; omega) hk2
          have e6 : IntKind.i64.wrap ((k : Int) + 1) = (k2 : Int) := by rw [IntWalk.i64_in _ (by omega)]; omega
          have l1 : (k : Int) < (N : Int) := by omega
          have l2 : (k2 : Int) < (N : Int) := by omega
          have lk : k < k2 := by omega
          have HS := Lib.hid HS
          have HG := Lib.hid HA.out.2
          have HE : Hid (A ++ (Y.take (t + 1) ++ x :: (Y.drop (t + 1) ++ B)) = (A ++ Y.take t) ++ y :: x :: (Y.drop (t + 1) ++ B)) := Lib.hid (by rw [et]; simp)
          have HK2 := Lib.hid (And.intro hk2 hkt)
          obtain ⟨x1, x2⟩ := x
          obtain ⟨y1, y2⟩ := y
          simp only at c1 c2 c3 c4 HS
          clear hA' ed et hyt HA hk2 hkt
          go_wp2_with fail
          go_region
          have HR := Lib.hid (ArrD.drew HS.out)
          have HQ := Lib.hid (grown_drew (HG.out.trans (grown_four wr g (k * 2) (k * 2 + 1) (k2 * 2) (k2 * 2 + 1) (.string y1) (.string y2) (.string x1) (.string x2))))
          obtain ⟨w9, hw9⟩ : ∃ w9, w9 = ((((wr.setCell ⟨g, k * 2, none⟩ (.string y1)).setCell ⟨g, k * 2 + 1, none⟩ (.string y2)).setCell ⟨g, k2 * 2, none⟩ (.string x1)).setCell ⟨g, k2 * 2 + 1, none⟩ (.string x2)).drew := ⟨_, rfl⟩
          rw [← hw9] at HR HQ ⊢
          clear hw9 HS HG c1 c2 c3 c4 f1 f2 f3 f4
          have HN : Hid (ArrD g (A ++ (Y.take (t + 1) ++ (x1, x2) :: (Y.drop (t + 1) ++ B))) w9 ∧ w.grownBy w9 (some g)) := Lib.hid ⟨by rw [HE.out]; exact HR.out, HQ.out⟩
          go_wp2_with fail
          have hk3 := HK2.out
          go_roundw
          case rel => exact ⟨t + 1, k2, by omega, by omega, by go_num, HN⟩
          case measure => simp [intOf]; omega
        · have hkq2 : k = q := by omega
          subst hkq2
          have hkl' : ¬ (k : Int) < (k : Int) := by omega
          have htp : t = p := by have := HP.out; omega
          subst htp
          clear hkt
          go_wp2_with fail
          go_end0
          obtain ⟨m1, m2, m3⟩ := HM.out
          exact ⟨rfl, ⟨_, m1, m2, by rw [List.length_append, List.length_cons, List.length_cons, List.length_take, List.length_drop]; omega, by have := HA.out.1; simpa using this⟩, HA.out.2⟩
end
section
open Go.RowKit

set_option maxRecDepth 100000 in
set_option maxHeartbeats 8000000 in
theorem symR_lib (g cap a m b N : Nat) (A X B : List Dec) (y : Dec) (w : World) (h : ArrD g (A ++ (X ++ (y :: B))) w) (hN : N = (A ++ (X ++ (y :: B))).length) (ha : a = A.length) (hm : m = a + X.length) (hb : b = m + 1) (hX2 : 2 ≤ X.length) (hx : Srt cfD X) (hNb : N ≤ 1048576) :
    Calls Tryd.prog 83 #[.slice (some ⟨g, 0, none⟩) N cap, .int .i64 (a : Int), .int .i64 (m : Int), .int .i64 (b : Int), fnD] w (SortE g A (X ++ [y]) B w) := by
  have hbN : b ≤ N := by rw [hN]; simp only [List.length_append, List.length_cons]; omega
  obtain ⟨n, hn⟩ : ∃ n, n = X.length := ⟨_, rfl⟩
  have e00 : IntKind.i64.wrap ((m : Int) - (a : Int)) = (n : Int) := by rw [IntWalk.i64_in _ (by omega)]; omega
  have e01 : ((n : Int) == 1) = false := by simp; omega
  have e02 : ¬ (n : Int) = 1 := by omega
  have e0 : IntKind.i64.wrap ((b : Int) - (m : Int)) = 1 := by rw [IntWalk.i64_in _ (by omega)]; omega
  have HF : Hid (a = A.length ∧ m = a + X.length ∧ b = m + 1 ∧ Srt cfD X ∧ N = (A ++ (X ++ (y :: B))).length) := Lib.hid ⟨ha, hm, hb, hx, hN⟩
  have H0 : Hid (ArrD g (A ++ (X ++ (y :: B))) w ∧ w.grownBy w (some g)) := Lib.hid ⟨h, grown_refl _ _⟩
  have hS0 : Hid (SrR X y a a m) := Lib.hid ⟨.inl rfl, .inl hm⟩
  have ham : a < m := by omega
  have lmN : (m : Int) < (N : Int) := by omega
  have lmN2 : m < N := by omega
  clear h hN ha hm hb hx hn hX2
  go_enter Tryd.func83, Tryd.ntmps83
  go_wp2_with fail
  go_loopw [14, 15] (fun iv jv wr => ∃ i j : Nat, a ≤ i ∧ i ≤ j ∧ j ≤ m ∧ iv = .int .i64 (i : Int) ∧ jv = .int .i64 (j : Int) ∧ Hid (SrR X y a i j) ∧ Hid (ArrD g (A ++ (X ++ (y :: B))) wr ∧ w.grownBy wr (some g))) (fun iv jv _ => (intOf jv - intOf iv).toNat)
  case atStart => exact ⟨a, m, Nat.le_refl _, Nat.le_of_lt ham, Nat.le_refl _, rfl, rfl, hS0, H0⟩
  case round =>
    obtain ⟨i, j, hmi, hij, hjb, rfl, rfl, HS, HA⟩ := hrel
    clear H0 hS0
    by_cases hlt : i < j
    · obtain ⟨c, hic, hcj, e1, e2, e3, e4, _⟩ := half hlt (Nat.le_trans hjb (Nat.le_of_lt lmN2)) hNb
      obtain ⟨x, hxc⟩ : ∃ x, X[c - a]? = some x := ⟨X[c - a]'(by have := HF.out; omega), by simp⟩
      have hxl := (List.getElem?_eq_some_iff.1 hxc).1
      have hLc : (A ++ (X ++ (y :: B)))[c]? = some x := by
        have h5 := HF.out
        rw [List.getElem?_append_right (by omega), show c - A.length = c - a by omega, List.getElem?_append_left (by omega)]
        exact hxc
      have hLm : (A ++ (X ++ (y :: B)))[m]? = some y := by
        have h5 := HF.out
        rw [List.getElem?_append_right (by omega), List.getElem?_append_right (by omega), show m - A.length - X.length = 0 by omega]
        rfl
      have BG := HA.out.1.pairK hLm hLc
      have hxv : X[c - a]! = x := by rw [List.getElem!_eq_getElem?_getD, hxc]; rfl
      obtain ⟨z, hz⟩ : ∃ z, z = cfD y x := ⟨_, rfl⟩
      have HC := Lib.hid (sortcmp_lib y x)
      have HZ : Hid (z = cfD y X[c - a]!) := Lib.hid (by rw [hxv]; exact hz)
      rw [← hz] at HC
      have lcN : (c : Int) < (N : Int) := by omega
      clear hz hxv hLm hLc hxc hxl
      obtain ⟨x1, x2⟩ := x
      obtain ⟨y1, y2⟩ := y
      obtain ⟨c1, c2, c3, c4, _⟩ := BG.all
      by_cases h0 : z < 0
      · have d0 : decide (z < 0) = true := by simpa using h0
        have HS2 : Hid (SrR X (y1, y2) a i c) := Lib.hid ⟨HS.out.1, .inr (by rw [← HZ.out]; exact h0)⟩
        go_wp2_with fail
        go_region_held3 (fun w' => w'.cell? ⟨g, m * 2, none⟩ = some (.string y1) ∧ w'.cell? ⟨g, m * 2 + 1, none⟩ = some (.string y2) ∧ w'.cell? ⟨g, c * 2, none⟩ = some (.string x1) ∧ w'.cell? ⟨g, c * 2 + 1, none⟩ = some (.string x2) ∧ PairK g m c (y1, y2) (x1, x2) w') (first
            | exact PairK.all BG
            | (go_split_ands; exact PairK.all (PairK.over (by assumption) bx1)))
            (first
            | (go_at_call 50; (with_reducible refine (HC.out _).mono ?_); rintro e wx1 ⟨rfl, bx1⟩))
        have bx : Below wr.heap.size wr wx1 := (Below.refl _ wr).drew.trans bx1
        have HA2 : Hid (ArrD g (A ++ (X ++ ((y1, y2) :: B))) wx1 ∧ w.grownBy wx1 (some g)) := Lib.hid ⟨HA.out.1.over bx, grown_below HA.out.2 bx⟩
        clear HA HC BG bx1 bx c1 c2 c3 c4
        go_wp2_with fail
        go_roundw
        case rel => exact ⟨i, c, hmi, hic, by omega, rfl, rfl, HS2, HA2⟩
        case measure => simp [intOf]; omega
      · have d0 : decide (z < 0) = false := by simpa using h0
        have HS2 : Hid (SrR X (y1, y2) a (c + 1) j) := Lib.hid ⟨.inr (by rw [show c + 1 - a - 1 = c - a by omega, ← HZ.out]; exact h0), HS.out.2⟩
        go_wp2_with fail
        go_region_held3 (fun w' => w'.cell? ⟨g, m * 2, none⟩ = some (.string y1) ∧ w'.cell? ⟨g, m * 2 + 1, none⟩ = some (.string y2) ∧ w'.cell? ⟨g, c * 2, none⟩ = some (.string x1) ∧ w'.cell? ⟨g, c * 2 + 1, none⟩ = some (.string x2) ∧ PairK g m c (y1, y2) (x1, x2) w') (first
            | exact PairK.all BG
            | (go_split_ands; exact PairK.all (PairK.over (by assumption) bx1)))
            (first
            | (go_at_call 50; (with_reducible refine (HC.out _).mono ?_); rintro e wx1 ⟨rfl, bx1⟩))
        have bx : Below wr.heap.size wr wx1 := (Below.refl _ wr).drew.trans bx1
        have HA2 : Hid (ArrD g (A ++ (X ++ ((y1, y2) :: B))) wx1 ∧ w.grownBy wx1 (some g)) := Lib.hid ⟨HA.out.1.over bx, grown_below HA.out.2 bx⟩
        clear HA HC BG bx1 bx c1 c2 c3 c4
        go_wp2_with fail
        go_roundw
        case rel => exact ⟨c + 1, j, by omega, by omega, hjb, by go_num, rfl, HS2, HA2⟩
        case measure => simp [intOf]; omega
    · have hij2 : i = j := by omega
      subst hij2
      obtain ⟨p, hp⟩ : ∃ p, p = i - a := ⟨_, rfl⟩
      have HM : Hid (Srt cfD (X.take p ++ y :: X.drop p) ∧ Same cfD (X ++ [y]) (X.take p ++ y :: X.drop p) ∧ p ≤ X.length) := Lib.hid (by
        obtain ⟨f1, f2, f3, f4, f5⟩ := HF.out
        obtain ⟨s1, s2⟩ := HS.out
        have hpl : p ≤ X.length := by omega
        have hs := search_right cfD_ordr (y := y) (p := p) f4 hpl (by
          rcases s1 with s1 | s1
          · exact .inl (by omega)
          · rw [hp]; exact .inr s1) (by
          rcases s2 with s2 | s2
          · exact .inl (by omega)
          · rw [hp]; exact .inr s2)
        have hml := merge_right cfD_ordr (y := y) (X1 := X.take p) (X2 := X.drop p) (by rw [List.take_append_drop]; exact f4) hs.1 hs.2
        rw [List.take_append_drop] at hml
        exact ⟨hml.1, hml.2, hpl⟩)
      have HA1 : Hid (ArrD g (A ++ (X.take X.length ++ y :: (X.drop X.length ++ B))) wr ∧ w.grownBy wr (some g)) := Lib.hid (by simpa using HA.out)
      have HP := Lib.hid hp
      clear HA HS hp
      have hlt' : ¬ (i : Int) < (i : Int) := by omega
      go_wp2_with fail
      go_loopw [17] (fun kv wr => ∃ t k : Nat, t ≤ X.length ∧ k = a + t ∧ i ≤ k ∧ kv = .int .i64 (k : Int) ∧ Hid (ArrD g (A ++ (X.take t ++ y :: (X.drop t ++ B))) wr ∧ w.grownBy wr (some g))) (fun kv _ => (intOf kv).toNat)
      case atStart => exact ⟨X.length, m, Nat.le_refl _, HF.out.2.1, by omega, rfl, HA1⟩
      case round =>
        obtain ⟨t, k, htX, hkt, hik, rfl, HA⟩ := hrel
        clear HA1
        by_cases hkl : i < k
        · have hkl' : (i : Int) < (k : Int) := by omega
          obtain ⟨s, hs⟩ : ∃ s, t = s + 1 := ⟨t - 1, by omega⟩
          subst hs
          obtain ⟨x, hxt⟩ : ∃ x, X[s]? = some x := ⟨X[s]'(by omega), by simp⟩
          have htl := (List.getElem?_eq_some_iff.1 hxt).1
          have ed : X.drop s = x :: X.drop (s + 1) := by rw [List.drop_eq_getElem_cons htl, (List.getElem?_eq_some_iff.1 hxt).2]
          have et : X.take (s + 1) = X.take s ++ [x] := by rw [List.take_add_one, hxt]; rfl
          have hA' : ArrD g ((A ++ X.take s) ++ x :: y :: (X.drop (s + 1) ++ B)) wr := by
            have := HA.out.1
            rw [et] at this
            simpa using this
          obtain ⟨k2, hk2⟩ : ∃ k2, k = k2 + 1 := ⟨k - 1, by omega⟩
          obtain ⟨⟨c1, c2, f1, f2⟩, ⟨c3, c4, f3, f4⟩, _, HS⟩ := hA'.pair (i := k2) (j := k) (by have := HF.out; rw [List.length_append, List.length_take]; omega) hk2
          have e6 : IntKind.i64.wrap ((k : Int) - 1) = (k2 : Int) := by have := HF.out; rw [IntWalk.i64_in _ (by omega)]; omega
          have l1 : (k : Int) < (N : Int) := by have := HF.out; omega
          have l2 : (k2 : Int) < (N : Int) := by have := HF.out; omega
          have lk : k2 < k := by omega
          have HS := Lib.hid HS
          have HG := Lib.hid HA.out.2
          have HE : Hid (A ++ (X.take s ++ y :: (X.drop s ++ B)) = (A ++ X.take s) ++ y :: x :: (X.drop (s + 1) ++ B)) := Lib.hid (by rw [ed]; simp)
          have HK2 := Lib.hid (And.intro hk2 hkt)
          obtain ⟨x1, x2⟩ := x
          obtain ⟨y1, y2⟩ := y
          simp only at c1 c2 c3 c4 HS
          clear hA' ed et hxt HA hk2 hkt
          go_wp2_with fail
          go_region
          have HR := Lib.hid (ArrD.drew HS.out)
          have HQ := Lib.hid (grown_drew (HG.out.trans (grown_four wr g (k * 2) (k * 2 + 1) (k2 * 2) (k2 * 2 + 1) (.string x1) (.string x2) (.string y1) (.string y2))))
          obtain ⟨w9, hw9⟩ : ∃ w9, w9 = ((((wr.setCell ⟨g, k * 2, none⟩ (.string x1)).setCell ⟨g, k * 2 + 1, none⟩ (.string x2)).setCell ⟨g, k2 * 2, none⟩ (.string y1)).setCell ⟨g, k2 * 2 + 1, none⟩ (.string y2)).drew := ⟨_, rfl⟩
          rw [← hw9] at HR HQ ⊢
          clear hw9 HS HG c1 c2 c3 c4 f1 f2 f3 f4
          have HN : Hid (ArrD g (A ++ (X.take s ++ (y1, y2) :: (X.drop s ++ B))) w9 ∧ w.grownBy w9 (some g)) := Lib.hid ⟨by rw [HE.out]; exact HR.out, HQ.out⟩
          go_wp2_with fail
          have hk3 := HK2.out
          go_roundw
          case rel => exact ⟨s, k2, by omega, by omega, by omega, by go_num, HN⟩
          case measure => simp [intOf]; omega
        · have hkq2 : k = i := by omega
          subst hkq2
          have hkl' : ¬ (k : Int) < (k : Int) := by omega
          have htp : t = p := by have := HP.out; omega
          subst htp
          clear hkt
          go_wp2_with fail
          go_end0
          obtain ⟨m1, m2, m3⟩ := HM.out
          exact ⟨rfl, ⟨_, m1, m2, by simp only [List.length_append, List.length_cons, List.length_take, List.length_drop, List.length_nil]; omega, by have := HA.out.1; simpa using this⟩, HA.out.2⟩
end
end Go.Proofs.YtknnjnginmkblaaDoor
