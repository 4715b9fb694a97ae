/- Walk: two runs merged in place, the middle in the first. -/
import Derived.Test.YtknnjnginmkblaaDoorS4
namespace Go.Proofs.YtknnjnginmkblaaDoor
open Go.RowKit

def MS1 (g : Nat) (A X1 X2 Y1 Y2 B : List Dec) (w w1 : World) : Prop := ArrD g (A ++ (X1 ++ (Y1 ++ (X2 ++ (Y2 ++ B))))) w1 ∧ w.grownBy w1 (some g)
def MS2 (g : Nat) (A X1 X2 Y1 Y2 B : List Dec) (w w2 : World) : Prop := ∃ Z1, Srt cfD Z1 ∧ Same cfD (X1 ++ Y1) Z1 ∧ Z1.length = X1.length + Y1.length ∧ ArrD g (A ++ (Z1 ++ (X2 ++ (Y2 ++ B)))) w2 ∧ w.grownBy w2 (some g)
def MS3 (g : Nat) (A X1 X2 Y1 Y2 B : List Dec) (w w3 : World) : Prop := ∃ Z1 Z2, Srt cfD Z1 ∧ Same cfD (X1 ++ Y1) Z1 ∧ Z1.length = X1.length + Y1.length ∧ Srt cfD Z2 ∧ Same cfD (X2 ++ Y2) Z2 ∧ Z2.length = X2.length + Y2.length ∧ ArrD g (A ++ (Z1 ++ (Z2 ++ B))) w3 ∧ w.grownBy w3 (some g)
theorem srt_half {X Y : List Dec} (hx : Srt cfD X) (hy : Srt cfD Y) (h : X = [] ∨ Y = []) : Srt cfD (X ++ Y) := by
  rcases h with rfl | rfl
  · simpa using hy
  · simpa using hx
theorem MS1.skip {g : Nat} {A X1 X2 Y1 Y2 B : List Dec} {w w1 : World} (h : MS1 g A X1 X2 Y1 Y2 B w w1) (hx : Srt cfD X1) (hy : Srt cfD Y1) (h0 : X1 = [] ∨ Y1 = []) : MS2 g A X1 X2 Y1 Y2 B w w1 :=
  ⟨X1 ++ Y1, srt_half hx hy h0, Same.refl _, List.length_append, by have := h.1; simpa using this, h.2⟩
theorem MS2.skip {g : Nat} {A X1 X2 Y1 Y2 B : List Dec} {w w1 : World} (h : MS2 g A X1 X2 Y1 Y2 B w w1) (hx : Srt cfD X2) (hy : Srt cfD Y2) (h0 : X2 = [] ∨ Y2 = []) : MS3 g A X1 X2 Y1 Y2 B w w1 := by
  obtain ⟨Z1, h1, h2, h3, h4, h5⟩ := h
  exact ⟨Z1, X2 ++ Y2, h1, h2, h3, srt_half hx hy h0, Same.refl _, List.length_append, by simpa using h4, h5⟩
def SrG (X Y : List Dec) (a K s0 r0 s r : Nat) : Prop := (s = s0 ∨ ¬ cfD Y[K - 1 - (s - a - 1)]! X[s - a - 1]! < 0) ∧ (r = r0 ∨ cfD Y[K - 1 - (r - a)]! X[r - a]! < 0)

def SymAt (M : Nat) : Prop := ∀ (g cap a m b N : Nat) (A X Y B : List Dec) (w : World), X.length + Y.length ≤ M → ArrD g (A ++ (X ++ (Y ++ B))) w → N = (A ++ (X ++ (Y ++ B))).length → a = A.length → m = a + X.length → b = m + Y.length → 0 < X.length → 0 < Y.length → Srt cfD X → Srt cfD Y → N ≤ 1048576 →
    Calls Tryd.prog 83 #[.slice (some ⟨g, 0, none⟩) N cap, .int .i64 (a : Int), .int .i64 (m : Int), .int .i64 (b : Int), fnD] w (SortE g A (X ++ Y) B w)

set_option maxRecDepth 100000 in
set_option maxHeartbeats 16000000 in
theorem symG1_lib (M : Nat) (ih : SymAt M) (g cap a m b N : Nat) (A X Y B : List Dec) (w : World) (hM : X.length + Y.length ≤ M + 1) (h : ArrD g (A ++ (X ++ (Y ++ B))) w) (hN : N = (A ++ (X ++ (Y ++ B))).length) (ha : a = A.length) (hm : m = a + X.length) (hb : b = m + Y.length) (hX1 : 2 ≤ X.length) (hY1 : 2 ≤ Y.length) (hx : Srt cfD X) (hy : Srt cfD Y) (hNb : N ≤ 1048576)
    (hcase0 : (a + b) / 2 < m) :
    Calls Tryd.prog 83 #[.slice (some ⟨g, 0, none⟩) N cap, .int .i64 (a : Int), .int .i64 (m : Int), .int .i64 (b : Int), fnD] w (SortE g A (X ++ Y) B w) := by
  have hbN : b ≤ N := by rw [hN]; simp only [List.length_append]; omega
  obtain ⟨n1, hn1⟩ : ∃ n1, n1 = X.length := ⟨_, rfl⟩
  obtain ⟨n2, hn2⟩ : ∃ n2, n2 = Y.length := ⟨_, rfl⟩
  have e1 : IntKind.i64.wrap ((m : Int) - (a : Int)) = (n1 : Int) := by rw [IntWalk.i64_in _ (by omega)]; omega
  have e2 : ((n1 : Int) == 1) = false := by simp; omega
  have e3 : ¬ (n1 : Int) = 1 := by omega
  have e4 : IntKind.i64.wrap ((b : Int) - (m : Int)) = (n2 : Int) := by rw [IntWalk.i64_in _ (by omega)]; omega
  have e5 : ((n2 : Int) == 1) = false := by simp; omega
  have e6 : ¬ (n2 : Int) = 1 := by omega
  obtain ⟨md, hmd⟩ : ∃ md, md = (a + b) / 2 := ⟨_, rfl⟩
  obtain ⟨nn, hnn⟩ : ∃ nn, nn = md + m := ⟨_, rfl⟩
  obtain ⟨pp, hpp⟩ : ∃ pp, pp = nn - 1 := ⟨_, rfl⟩
  have e7 : IntKind.i64.wrap ((a : Int) + (b : Int)) = (a : Int) + (b : Int) := IntWalk.i64_in _ (by omega)
  have e8 : IntKind.u64.wrap ((a : Int) + (b : Int)) = (a : Int) + (b : Int) := IntWalk.u64_in _ (by omega)
  have e9 : ((a : Int) + (b : Int)) / 2 = (md : Int) := by omega
  have e10 : IntKind.i64.wrap (md : Int) = (md : Int) := IntWalk.i64_in _ (by omega)
  have e11 : IntKind.i64.wrap ((md : Int) + (m : Int)) = (nn : Int) := by rw [IntWalk.i64_in _ (by omega)]; omega
  have e12 : IntKind.i64.wrap ((nn : Int) - 1) = (pp : Int) := by rw [IntWalk.i64_in _ (by omega)]; omega
  have HF : Hid (a = A.length ∧ m = a + X.length ∧ b = m + Y.length ∧ Srt cfD X ∧ Srt cfD Y ∧ N = (A ++ (X ++ (Y ++ B))).length ∧ 2 ≤ X.length ∧ 2 ≤ Y.length ∧ md = (a + b) / 2 ∧ nn = md + m ∧ pp = nn - 1 ∧ X.length + Y.length ≤ M + 1) := Lib.hid ⟨ha, hm, hb, hx, hy, hN, by omega, by omega, hmd, hnn, hpp, hM⟩
  have H0 : Hid (ArrD g (A ++ (X ++ (Y ++ B))) w ∧ w.grownBy w (some g)) := Lib.hid ⟨h, grown_refl _ _⟩
  have HI := Lib.hid ih
  obtain ⟨K, hK⟩ : ∃ K, K = md - a := ⟨_, rfl⟩
  have HK := Lib.hid hK
  clear ih h
  have hcase : md < m := by rw [hmd]; exact hcase0
  clear hcase0
  obtain ⟨s0, hs0⟩ : ∃ s0, s0 = nn - b := ⟨_, rfl⟩
  have d1 : decide ((md : Int) < (m : Int)) = true := by simp; omega
  have e13 : IntKind.i64.wrap ((nn : Int) - (b : Int)) = (s0 : Int) := by rw [IntWalk.i64_in _ (by omega)]; omega
  have HG : Hid (a ≤ s0 ∧ s0 ≤ md ∧ md ≤ m ∧ md ≤ md ∧ (∀ c, s0 ≤ c → c < md → m ≤ pp - c ∧ pp - c < b) ∧ K ≤ s0 - a + Y.length ∧ (s0 - a = 0 ∨ K = s0 - a + Y.length) ∧ (md - a = X.length ∨ md - a = K)) := Lib.hid ⟨by omega, by omega, by omega, by omega, fun c h1 h2 => by omega, by omega, by omega, by omega⟩
  have HQ0 : Hid (SrG X Y a K s0 md s0 md) := Lib.hid ⟨.inl rfl, .inl rfl⟩
  have hsr : s0 ≤ md := by omega
  clear hN ha hm hb hx hy hM hn1 hn2 hmd hnn hpp hK hs0 hX1 hY1
  go_enter Tryd.func83, Tryd.ntmps83
  go_wp2_with fail
  go_loopw [20, 21] (fun sv rv wr => ∃ s r : Nat, s0 ≤ s ∧ s ≤ r ∧ r ≤ md ∧ sv = .int .i64 (s : Int) ∧ rv = .int .i64 (r : Int) ∧ Hid (SrG X Y a K s0 md s r) ∧ Hid (ArrD g (A ++ (X ++ (Y ++ B))) wr ∧ w.grownBy wr (some g))) (fun sv rv _ => (intOf rv - intOf sv).toNat)
  case atStart => exact ⟨s0, md, Nat.le_refl _, hsr, Nat.le_refl _, rfl, rfl, HQ0, H0⟩
  case round =>
    obtain ⟨s, r, hs0s, hsr2, hrr0, rfl, rfl, HS, HA⟩ := hrel
    clear H0 HQ0 e1 e2 e3 e4 e5 e6 e7 e8 e9 e10 e11 e12 e13
    by_cases hlt : s < r
    · have hrN : r ≤ N := by have := HG.out; have := HF.out; omega
      obtain ⟨c, hsc, hcr, f1, f2, f3, f4, _⟩ := half hlt hrN hNb
      obtain ⟨q, hq⟩ : ∃ q, q = pp - c := ⟨_, rfl⟩
      have hqq := HG.out.2.2.2.2.1 c (by omega) (by omega)
      rw [← hq] at hqq
      have f5 : IntKind.i64.wrap ((pp : Int) - (c : Int)) = (q : Int) := by have := HF.out; have := HG.out; rw [IntWalk.i64_in _ (by omega)]; omega
      obtain ⟨x, hxc⟩ : ∃ x, X[c - a]? = some x := ⟨X[c - a]'(by have := HF.out; have := HG.out; omega), by simp⟩
      obtain ⟨y, hyq⟩ : ∃ y, Y[q - m]? = some y := ⟨Y[q - m]'(by have := HF.out; omega), by simp⟩
      have hxl := (List.getElem?_eq_some_iff.1 hxc).1
      have hyl := (List.getElem?_eq_some_iff.1 hyq).1
      have hLx : (A ++ (X ++ (Y ++ B)))[c]? = some x := by
        have h5 := HF.out
        have h6 := HG.out
        rw [List.getElem?_append_right (by omega), show c - A.length = c - a by omega, List.getElem?_append_left (by omega)]
        exact hxc
      have hLy : (A ++ (X ++ (Y ++ B)))[q]? = some y := by
        have h5 := HF.out
        rw [List.getElem?_append_right (by omega), List.getElem?_append_right (by omega), show q - A.length - X.length = q - m by omega, List.getElem?_append_left (by omega)]
        exact hyq
      have BG := HA.out.1.pairK hLx hLy
      have hxv : X[c - a]! = x := by rw [List.getElem!_eq_getElem?_getD, hxc]; rfl
      have hyv : Y[K - 1 - (c - a)]! = y := by
        have h5 := HF.out
        have h6 := HK.out
        have h7 := HG.out
        rw [show K - 1 - (c - a) = q - m by omega, List.getElem!_eq_getElem?_getD, hyq]; rfl
      obtain ⟨z, hz⟩ : ∃ z, z = cfD y x := ⟨_, rfl⟩
      have HC := Lib.hid (sortcmp_lib y x)
      have HZ : Hid (z = cfD Y[K - 1 - (c - a)]! X[c - a]!) := Lib.hid (by rw [hxv, hyv]; exact hz)
      rw [← hz] at HC
      have lcN : (c : Int) < (N : Int) := by omega
      have lqN : (q : Int) < (N : Int) := by omega
      have hac : a ≤ c := by have := HG.out; omega
      clear hz hxv hyv hLx hLy hxc hyq hxl hyl hq hqq
      obtain ⟨x1, x2⟩ := x
      obtain ⟨y1, y2⟩ := y
      obtain ⟨c1, c2, c3, c4, _⟩ := BG.all
      by_cases h0 : z < 0
      · have d0 : decide (z < 0) = true := by simpa using h0
        have HS2 : Hid (SrG X Y a K s0 md s c) := Lib.hid ⟨HS.out.1, .inr (by rw [← HZ.out]; exact h0)⟩
        go_wp2_with fail
        go_region_held3 (fun w' => w'.cell? ⟨g, c * 2, none⟩ = some (.string x1) ∧ w'.cell? ⟨g, c * 2 + 1, none⟩ = some (.string x2) ∧ w'.cell? ⟨g, q * 2, none⟩ = some (.string y1) ∧ w'.cell? ⟨g, q * 2 + 1, none⟩ = some (.string y2) ∧ PairK g c q (x1, x2) (y1, y2) w') (first
            | exact PairK.all BG
            | (go_split_ands; exact PairK.all (PairK.over (by assumption) bx1)))
            (first
            | (go_at_call 50; (with_reducible refine (HC.out _).mono ?_); rintro e wx1 ⟨rfl, bx1⟩))
        have bx : Below wr.heap.size wr wx1 := (Below.refl _ wr).drew.trans bx1
        have HA2 : Hid (ArrD g (A ++ (X ++ (Y ++ B))) wx1 ∧ w.grownBy wx1 (some g)) := Lib.hid ⟨HA.out.1.over bx, grown_below HA.out.2 bx⟩
        clear HA HC BG bx1 bx c1 c2 c3 c4
        go_wp2_with fail
        go_roundw
        case rel => exact ⟨s, c, hs0s, hsc, by omega, rfl, rfl, HS2, HA2⟩
        case measure => simp [intOf]; omega
      · have d0 : decide (z < 0) = false := by simpa using h0
        have HS2 : Hid (SrG X Y a K s0 md (c + 1) r) := Lib.hid ⟨.inr (by rw [show c + 1 - a - 1 = c - a by omega, ← HZ.out]; exact h0), HS.out.2⟩
        go_wp2_with fail
        go_region_held3 (fun w' => w'.cell? ⟨g, c * 2, none⟩ = some (.string x1) ∧ w'.cell? ⟨g, c * 2 + 1, none⟩ = some (.string x2) ∧ w'.cell? ⟨g, q * 2, none⟩ = some (.string y1) ∧ w'.cell? ⟨g, q * 2 + 1, none⟩ = some (.string y2) ∧ PairK g c q (x1, x2) (y1, y2) w') (first
            | exact PairK.all BG
            | (go_split_ands; exact PairK.all (PairK.over (by assumption) bx1)))
            (first
            | (go_at_call 50; (with_reducible refine (HC.out _).mono ?_); rintro e wx1 ⟨rfl, bx1⟩))
        have bx : Below wr.heap.size wr wx1 := (Below.refl _ wr).drew.trans bx1
        have HA2 : Hid (ArrD g (A ++ (X ++ (Y ++ B))) wx1 ∧ w.grownBy wx1 (some g)) := Lib.hid ⟨HA.out.1.over bx, grown_below HA.out.2 bx⟩
        clear HA HC BG bx1 bx c1 c2 c3 c4
        go_wp2_with fail
        go_roundw
        case rel => exact ⟨c + 1, r, by omega, by omega, hrr0, by go_num, rfl, HS2, HA2⟩
        case measure => simp [intOf]; omega
    · have hsr3 : s = r := by omega
      subst hsr3
      have hlt' : ¬ (s : Int) < (s : Int) := by omega
      obtain ⟨en, hen⟩ : ∃ en, en = nn - s := ⟨_, rfl⟩
      have e14 : IntKind.i64.wrap ((nn : Int) - (s : Int)) = (en : Int) := by have := HF.out; have := HG.out; rw [IntWalk.i64_in _ (by omega)]; omega
      obtain ⟨X1, hX1⟩ : ∃ X1, X1 = X.take (s - a) := ⟨_, rfl⟩
      obtain ⟨X2, hX2⟩ : ∃ X2, X2 = X.drop (s - a) := ⟨_, rfl⟩
      obtain ⟨Y1, hY1⟩ : ∃ Y1, Y1 = Y.take (K - (s - a)) := ⟨_, rfl⟩
      obtain ⟨Y2, hY2⟩ : ∃ Y2, Y2 = Y.drop (K - (s - a)) := ⟨_, rfl⟩
      have HXY : Hid (X = X1 ++ X2 ∧ Y = Y1 ++ Y2) := Lib.hid ⟨by rw [hX1, hX2, List.take_append_drop], by rw [hY1, hY2, List.take_append_drop]⟩
      have HL : Hid (X1.length = s - a ∧ X2.length = m - s ∧ Y1.length = en - m ∧ Y2.length = b - en ∧ a ≤ s ∧ s ≤ m ∧ m ≤ en ∧ en ≤ b ∧ en - m = md - s ∧ s ≤ md ∧ md ≤ en ∧ en - md = m - s ∧ md - a < X.length + Y.length ∧ b - md < X.length + Y.length) := Lib.hid (by
        have h5 := HF.out
        have h6 := HG.out
        have h7 := HK.out
        rw [hX1, hX2, hY1, hY2, List.length_take, List.length_drop, List.length_take, List.length_drop]
        omega)
      have HSp : Hid ((∀ y ∈ Y1, ∀ x ∈ X2, cfD y x < 0) ∧ (∀ x ∈ X1, ∀ y ∈ Y2, cfD x y ≤ 0)) := Lib.hid (by
        obtain ⟨f1, f2, f3, f4, f5, f6, _⟩ := HF.out
        obtain ⟨g1, g2, g3, g4, g5, g6, g7, g8⟩ := HG.out
        have h7 := HK.out
        obtain ⟨s1, s2⟩ := HS.out
        rw [hX1, hX2, hY1, hY2]
        exact search_split cfD_ordr (s := s - a) (s0 := s0 - a) (r0 := md - a) (K := K) f4 f5 (by omega) (by omega) (by omega) (by omega) g6 g7 g8 (by
          rcases s1 with s1 | s1
          · exact .inl (by omega)
          · exact .inr s1) (by
          rcases s2 with s2 | s2
          · exact .inl (by omega)
          · exact .inr s2))
      have HSo : Hid (Srt cfD X1 ∧ Srt cfD X2 ∧ Srt cfD Y1 ∧ Srt cfD Y2) := Lib.hid (by
        obtain ⟨f1, f2, f3, f4, f5, f6, _⟩ := HF.out
        rw [HXY.out.1] at f4
        rw [HXY.out.2] at f5
        exact ⟨f4.left, f4.right, f5.left, f5.right⟩)
      have HA1 : Hid (ArrD g ((A ++ X1) ++ (X2 ++ (Y1 ++ (Y2 ++ B)))) wr ∧ w.grownBy wr (some g)) := Lib.hid (by
        have := HA.out
        rw [HXY.out.1, HXY.out.2] at this
        simpa using this)
      have CR : Hid (s < m → m < en → ∀ f : Value, Calls Tryd.prog 89 #[.slice (some ⟨g, 0, none⟩) N cap, .int .i64 (s : Int), .int .i64 (m : Int), .int .i64 (en : Int), f] wr fun e w1 => e = .returned (.tuple #[]) ∧ Hid (MS1 g A X1 X2 Y1 Y2 B w w1)) := Lib.hid (fun q1 q2 f => by
        have h5 := HF.out
        have h8 := HL.out
        have hNN : N = ((A ++ X1) ++ (X2 ++ (Y1 ++ (Y2 ++ B)))).length := by
          rw [h5.2.2.2.2.2.1, HXY.out.1, HXY.out.2]; simp only [List.length_append]; omega
        refine (rotate_lib g cap s m en N (A ++ X1) X2 Y1 (Y2 ++ B) f wr HA1.out.1 hNN (by rw [List.length_append]; omega) (by rw [List.length_append]; omega) (by rw [List.length_append]; omega) (by omega) (by omega) hNb).mono ?_
        rintro e w1 ⟨he, k1, k2⟩
        refine ⟨he, Lib.hid ⟨by simpa using k1, HA1.out.2.trans k2⟩⟩)
      have CS1 : Hid (∀ w1 : World, Hid (MS1 g A X1 X2 Y1 Y2 B w w1) → ¬ (s < m ∧ m < en) → MS1 g A X1 X2 Y1 Y2 B w w1) := Lib.hid (fun w1 h _ => h.out)
      have CN : Hid (¬ (s < m ∧ m < en) → MS1 g A X1 X2 Y1 Y2 B w wr) := Lib.hid (fun hn => by
        have h8 := HL.out
        refine ⟨?_, HA1.out.2⟩
        have h9 := HA1.out.1
        rcases Nat.lt_or_ge s m with q | q
        · have : Y1 = [] := List.eq_nil_of_length_eq_zero (by have : ¬ m < en := fun h => hn ⟨q, h⟩; omega)
          subst this
          simpa using h9
        · have : X2 = [] := List.eq_nil_of_length_eq_zero (by omega)
          subst this
          simpa using h9)
      have C1 : Hid (∀ w1 : World, Hid (MS1 g A X1 X2 Y1 Y2 B w w1) → a < s → s < md → Calls Tryd.prog 83 #[.slice (some ⟨g, 0, none⟩) N cap, .int .i64 (a : Int), .int .i64 (s : Int), .int .i64 (md : Int), fnD] w1 fun e w2 => e = .returned (.tuple #[]) ∧ Hid (MS2 g A X1 X2 Y1 Y2 B w w2)) := Lib.hid (fun w1 h1 q1 q2 => by
        have h5 := HF.out
        have h8 := HL.out
        have hNN : N = (A ++ (X1 ++ (Y1 ++ (X2 ++ (Y2 ++ B))))).length := by
          rw [h5.2.2.2.2.2.1, HXY.out.1, HXY.out.2]; simp only [List.length_append]; omega
        refine (HI.out g cap a s md N A X1 Y1 (X2 ++ (Y2 ++ B)) w1 (by omega) h1.out.1 hNN (by omega) (by omega) (by omega) (by omega) (by omega) HSo.out.1 HSo.out.2.2.1 hNb).mono ?_
        rintro e w2 ⟨he, ⟨Z, k1, k2, k3, k4⟩, k5⟩
        exact ⟨he, Lib.hid ⟨Z, k1, k2, by rw [k3, List.length_append], k4, h1.out.2.trans k5⟩⟩)
      have C2 : Hid (∀ w1 : World, Hid (MS2 g A X1 X2 Y1 Y2 B w w1) → md < en → en < b → Calls Tryd.prog 83 #[.slice (some ⟨g, 0, none⟩) N cap, .int .i64 (md : Int), .int .i64 (en : Int), .int .i64 (b : Int), fnD] w1 fun e w2 => e = .returned (.tuple #[]) ∧ Hid (MS3 g A X1 X2 Y1 Y2 B w w2)) := Lib.hid (fun w1 h1 q1 q2 => by
        have h5 := HF.out
        have h8 := HL.out
        obtain ⟨Z1, z1, z2, z3, z4, z5⟩ := h1.out
        have hA2 : ArrD g ((A ++ Z1) ++ (X2 ++ (Y2 ++ B))) w1 := by simpa using z4
        have hNN : N = ((A ++ Z1) ++ (X2 ++ (Y2 ++ B))).length := by
          rw [h5.2.2.2.2.2.1, HXY.out.1, HXY.out.2]; simp only [List.length_append]; omega
        refine (HI.out g cap md en b N (A ++ Z1) X2 Y2 B w1 (by omega) hA2 hNN (by rw [List.length_append]; omega) (by omega) (by omega) (by omega) (by omega) HSo.out.2.1 HSo.out.2.2.2 hNb).mono ?_
        rintro e w2 ⟨he, ⟨Z, k1, k2, k3, k4⟩, k5⟩
        exact ⟨he, Lib.hid ⟨Z1, Z, z1, z2, z3, k1, k2, by rw [k3, List.length_append], by simpa using k4, z5.trans k5⟩⟩)
      have CE : Hid (∀ w3 : World, Hid (MS3 g A X1 X2 Y1 Y2 B w w3) → (∃ Z, Srt cfD Z ∧ Same cfD (X ++ Y) Z ∧ Z.length = (X ++ Y).length ∧ ArrD g (A ++ (Z ++ B)) w3) ∧ w.grownBy w3 (some g)) := Lib.hid (fun w3 h3 => by
        obtain ⟨Z1, Z2, z1, z2, z3, z4, z5, z6, z7, z8⟩ := h3.out
        have h5 := HF.out
        have hms := merge_step cfD_ordr (X1 := X1) (X2 := X2) (Y1 := Y1) (Y2 := Y2) (by rw [← HXY.out.1]; exact h5.2.2.2.1) (by rw [← HXY.out.2]; exact h5.2.2.2.2.1) HSp.out.1 HSp.out.2 z1 z2 z4 z5
        refine ⟨⟨Z1 ++ Z2, hms.1, ?_, ?_, by simpa using z7⟩, z8⟩
        · have := hms.2; rw [← HXY.out.1, ← HXY.out.2] at this; exact this
        · rw [HXY.out.1, HXY.out.2]; simp only [List.length_append]; omega)
      clear HA HS HA1 hen hX1 hX2 hY1 hY2 CS1 hs0s hsr2 hrr0 hlt
      by_cases hP : s < m
      · by_cases hQ : m < en
        · by_cases hU : a < s
          · by_cases hV : en < b
            · have kP : decide ((s : Int) < (m : Int)) = true := by have h8 := HL.out; have h9 := HF.out; simp; omega
              have nP : s < m := by have h8 := HL.out; have h9 := HF.out; omega
              have kQ : decide ((m : Int) < (en : Int)) = true := by have h8 := HL.out; have h9 := HF.out; simp; omega
              have nQ : m < en := by have h8 := HL.out; have h9 := HF.out; omega
              have kU : decide ((a : Int) < (s : Int)) = true := by have h8 := HL.out; have h9 := HF.out; simp; omega
              have nU : a < s := by have h8 := HL.out; have h9 := HF.out; omega
              have kT : decide ((s : Int) < (md : Int)) = true := by have h8 := HL.out; have h9 := HF.out; simp; omega
              have nT : s < md := by have h8 := HL.out; have h9 := HF.out; omega
              have kS : decide ((md : Int) < (en : Int)) = true := by have h8 := HL.out; have h9 := HF.out; simp; omega
              have nS : md < en := by have h8 := HL.out; have h9 := HF.out; omega
              have kV : decide ((en : Int) < (b : Int)) = true := by have h8 := HL.out; have h9 := HF.out; simp; omega
              have nV : en < b := by have h8 := HL.out; have h9 := HF.out; omega
              have CR2 := Lib.hid (CR.out nP nQ)
              go_wp2_with fail
              refine (CR2.out _).mono ?_
              rintro e w1 ⟨rfl, M1⟩
              clear CR CR2 CN
              have CA1 := Lib.hid (C1.out _ M1 nU nT)
              go_wp2_with fail
              refine CA1.out.mono ?_
              rintro e w2 ⟨rfl, M2⟩
              clear C1 CA1 M1
              have CA2 := Lib.hid (C2.out _ M2 nS nV)
              go_wp2_with fail
              refine CA2.out.mono ?_
              rintro e w3 ⟨rfl, M3⟩
              clear C2 CA2 M2
              go_wp2_with fail
              go_end0
              exact ⟨rfl, (CE.out _ M3).1, (CE.out _ M3).2⟩
            · have kP : decide ((s : Int) < (m : Int)) = true := by have h8 := HL.out; have h9 := HF.out; simp; omega
              have nP : s < m := by have h8 := HL.out; have h9 := HF.out; omega
              have kQ : decide ((m : Int) < (en : Int)) = true := by have h8 := HL.out; have h9 := HF.out; simp; omega
              have nQ : m < en := by have h8 := HL.out; have h9 := HF.out; omega
              have kU : decide ((a : Int) < (s : Int)) = true := by have h8 := HL.out; have h9 := HF.out; simp; omega
              have nU : a < s := by have h8 := HL.out; have h9 := HF.out; omega
              have kT : decide ((s : Int) < (md : Int)) = true := by have h8 := HL.out; have h9 := HF.out; simp; omega
              have nT : s < md := by have h8 := HL.out; have h9 := HF.out; omega
              have kS : decide ((md : Int) < (en : Int)) = true := by have h8 := HL.out; have h9 := HF.out; simp; omega
              have nS : md < en := by have h8 := HL.out; have h9 := HF.out; omega
              have kV : decide ((en : Int) < (b : Int)) = false := by have h8 := HL.out; have h9 := HF.out; simp; omega
              have nV : ¬ en < b := by have h8 := HL.out; have h9 := HF.out; omega
              have CR2 := Lib.hid (CR.out nP nQ)
              go_wp2_with fail
              refine (CR2.out _).mono ?_
              rintro e w1 ⟨rfl, M1⟩
              clear CR CR2 CN
              have CA1 := Lib.hid (C1.out _ M1 nU nT)
              go_wp2_with fail
              refine CA1.out.mono ?_
              rintro e w2 ⟨rfl, M2⟩
              clear C1 CA1 M1
              have M3 := Lib.hid (M2.out.skip HSo.out.2.1 HSo.out.2.2.2 (by have h8 := HL.out; first | exact .inr (List.eq_nil_of_length_eq_zero (by omega)) | exact .inl (List.eq_nil_of_length_eq_zero (by omega))))
              clear C2 M2
              go_wp2_with fail
              go_end0
              exact ⟨rfl, (CE.out _ M3).1, (CE.out _ M3).2⟩
          · by_cases hV : en < b
            · have kP : decide ((s : Int) < (m : Int)) = true := by have h8 := HL.out; have h9 := HF.out; simp; omega
              have nP : s < m := by have h8 := HL.out; have h9 := HF.out; omega
              have kQ : decide ((m : Int) < (en : Int)) = true := by have h8 := HL.out; have h9 := HF.out; simp; omega
              have nQ : m < en := by have h8 := HL.out; have h9 := HF.out; omega
              have kU : decide ((a : Int) < (s : Int)) = false := by have h8 := HL.out; have h9 := HF.out; simp; omega
              have nU : ¬ a < s := by have h8 := HL.out; have h9 := HF.out; omega
              have kT : decide ((s : Int) < (md : Int)) = true := by have h8 := HL.out; have h9 := HF.out; simp; omega
              have nT : s < md := by have h8 := HL.out; have h9 := HF.out; omega
              have kS : decide ((md : Int) < (en : Int)) = true := by have h8 := HL.out; have h9 := HF.out; simp; omega
              have nS : md < en := by have h8 := HL.out; have h9 := HF.out; omega
              have kV : decide ((en : Int) < (b : Int)) = true := by have h8 := HL.out; have h9 := HF.out; simp; omega
              have nV : en < b := by have h8 := HL.out; have h9 := HF.out; omega
              have CR2 := Lib.hid (CR.out nP nQ)
              go_wp2_with fail
              refine (CR2.out _).mono ?_
              rintro e w1 ⟨rfl, M1⟩
              clear CR CR2 CN
              have M2 := Lib.hid (M1.out.skip HSo.out.1 HSo.out.2.2.1 (by have h8 := HL.out; first | exact .inr (List.eq_nil_of_length_eq_zero (by omega)) | exact .inl (List.eq_nil_of_length_eq_zero (by omega))))
              clear C1 M1
              have CA2 := Lib.hid (C2.out _ M2 nS nV)
              go_wp2_with fail
              refine CA2.out.mono ?_
              rintro e w3 ⟨rfl, M3⟩
              clear C2 CA2 M2
              go_wp2_with fail
              go_end0
              exact ⟨rfl, (CE.out _ M3).1, (CE.out _ M3).2⟩
            · have kP : decide ((s : Int) < (m : Int)) = true := by have h8 := HL.out; have h9 := HF.out; simp; omega
              have nP : s < m := by have h8 := HL.out; have h9 := HF.out; omega
              have kQ : decide ((m : Int) < (en : Int)) = true := by have h8 := HL.out; have h9 := HF.out; simp; omega
              have nQ : m < en := by have h8 := HL.out; have h9 := HF.out; omega
              have kU : decide ((a : Int) < (s : Int)) = false := by have h8 := HL.out; have h9 := HF.out; simp; omega
              have nU : ¬ a < s := by have h8 := HL.out; have h9 := HF.out; omega
              have kT : decide ((s : Int) < (md : Int)) = true := by have h8 := HL.out; have h9 := HF.out; simp; omega
              have nT : s < md := by have h8 := HL.out; have h9 := HF.out; omega
              have kS : decide ((md : Int) < (en : Int)) = true := by have h8 := HL.out; have h9 := HF.out; simp; omega
              have nS : md < en := by have h8 := HL.out; have h9 := HF.out; omega
              have kV : decide ((en : Int) < (b : Int)) = false := by have h8 := HL.out; have h9 := HF.out; simp; omega
              have nV : ¬ en < b := by have h8 := HL.out; have h9 := HF.out; omega
              have CR2 := Lib.hid (CR.out nP nQ)
              go_wp2_with fail
              refine (CR2.out _).mono ?_
              rintro e w1 ⟨rfl, M1⟩
              clear CR CR2 CN
              have M2 := Lib.hid (M1.out.skip HSo.out.1 HSo.out.2.2.1 (by have h8 := HL.out; first | exact .inr (List.eq_nil_of_length_eq_zero (by omega)) | exact .inl (List.eq_nil_of_length_eq_zero (by omega))))
              clear C1 M1
              have M3 := Lib.hid (M2.out.skip HSo.out.2.1 HSo.out.2.2.2 (by have h8 := HL.out; first | exact .inr (List.eq_nil_of_length_eq_zero (by omega)) | exact .inl (List.eq_nil_of_length_eq_zero (by omega))))
              clear C2 M2
              go_wp2_with fail
              go_end0
              exact ⟨rfl, (CE.out _ M3).1, (CE.out _ M3).2⟩
        · by_cases hU : a < s
          · have kP : decide ((s : Int) < (m : Int)) = true := by have h8 := HL.out; have h9 := HF.out; simp; omega
            have nP : s < m := by have h8 := HL.out; have h9 := HF.out; omega
            have kQ : decide ((m : Int) < (en : Int)) = false := by have h8 := HL.out; have h9 := HF.out; simp; omega
            have nQ : ¬ m < en := by have h8 := HL.out; have h9 := HF.out; omega
            have kU : decide ((a : Int) < (s : Int)) = true := by have h8 := HL.out; have h9 := HF.out; simp; omega
            have nU : a < s := by have h8 := HL.out; have h9 := HF.out; omega
            have kT : decide ((s : Int) < (md : Int)) = false := by have h8 := HL.out; have h9 := HF.out; simp; omega
            have nT : ¬ s < md := by have h8 := HL.out; have h9 := HF.out; omega
            have kS : decide ((md : Int) < (en : Int)) = true := by have h8 := HL.out; have h9 := HF.out; simp; omega
            have nS : md < en := by have h8 := HL.out; have h9 := HF.out; omega
            have kV : decide ((en : Int) < (b : Int)) = true := by have h8 := HL.out; have h9 := HF.out; simp; omega
            have nV : en < b := by have h8 := HL.out; have h9 := HF.out; omega
            have M1 : Hid (MS1 g A X1 X2 Y1 Y2 B w wr) := Lib.hid (CN.out (fun hh => by have := hh.1; have := hh.2; omega))
            clear CR CN
            have M2 := Lib.hid (M1.out.skip HSo.out.1 HSo.out.2.2.1 (by have h8 := HL.out; first | exact .inr (List.eq_nil_of_length_eq_zero (by omega)) | exact .inl (List.eq_nil_of_length_eq_zero (by omega))))
            clear C1 M1
            have CA2 := Lib.hid (C2.out _ M2 nS nV)
            go_wp2_with fail
            refine CA2.out.mono ?_
            rintro e w3 ⟨rfl, M3⟩
            clear C2 CA2 M2
            go_wp2_with fail
            go_end0
            exact ⟨rfl, (CE.out _ M3).1, (CE.out _ M3).2⟩
          · have kP : decide ((s : Int) < (m : Int)) = true := by have h8 := HL.out; have h9 := HF.out; simp; omega
            have nP : s < m := by have h8 := HL.out; have h9 := HF.out; omega
            have kQ : decide ((m : Int) < (en : Int)) = false := by have h8 := HL.out; have h9 := HF.out; simp; omega
            have nQ : ¬ m < en := by have h8 := HL.out; have h9 := HF.out; omega
            have kU : decide ((a : Int) < (s : Int)) = false := by have h8 := HL.out; have h9 := HF.out; simp; omega
            have nU : ¬ a < s := by have h8 := HL.out; have h9 := HF.out; omega
            have kT : decide ((s : Int) < (md : Int)) = false := by have h8 := HL.out; have h9 := HF.out; simp; omega
            have nT : ¬ s < md := by have h8 := HL.out; have h9 := HF.out; omega
            have kS : decide ((md : Int) < (en : Int)) = true := by have h8 := HL.out; have h9 := HF.out; simp; omega
            have nS : md < en := by have h8 := HL.out; have h9 := HF.out; omega
            have kV : decide ((en : Int) < (b : Int)) = true := by have h8 := HL.out; have h9 := HF.out; simp; omega
            have nV : en < b := by have h8 := HL.out; have h9 := HF.out; omega
            have M1 : Hid (MS1 g A X1 X2 Y1 Y2 B w wr) := Lib.hid (CN.out (fun hh => by have := hh.1; have := hh.2; omega))
            clear CR CN
            have M2 := Lib.hid (M1.out.skip HSo.out.1 HSo.out.2.2.1 (by have h8 := HL.out; first | exact .inr (List.eq_nil_of_length_eq_zero (by omega)) | exact .inl (List.eq_nil_of_length_eq_zero (by omega))))
            clear C1 M1
            have CA2 := Lib.hid (C2.out _ M2 nS nV)
            go_wp2_with fail
            refine CA2.out.mono ?_
            rintro e w3 ⟨rfl, M3⟩
            clear C2 CA2 M2
            go_wp2_with fail
            go_end0
            exact ⟨rfl, (CE.out _ M3).1, (CE.out _ M3).2⟩
      · by_cases hQ : m < en
        · have kP : decide ((s : Int) < (m : Int)) = false := by have h8 := HL.out; have h9 := HF.out; simp; omega
          have nP : ¬ s < m := by have h8 := HL.out; have h9 := HF.out; omega
          have kQ : decide ((m : Int) < (en : Int)) = true := by have h8 := HL.out; have h9 := HF.out; simp; omega
          have nQ : m < en := by have h8 := HL.out; have h9 := HF.out; omega
          have kU : decide ((a : Int) < (s : Int)) = true := by have h8 := HL.out; have h9 := HF.out; simp; omega
          have nU : a < s := by have h8 := HL.out; have h9 := HF.out; omega
          have kT : decide ((s : Int) < (md : Int)) = true := by have h8 := HL.out; have h9 := HF.out; simp; omega
          have nT : s < md := by have h8 := HL.out; have h9 := HF.out; omega
          have kS : decide ((md : Int) < (en : Int)) = false := by have h8 := HL.out; have h9 := HF.out; simp; omega
          have nS : ¬ md < en := by have h8 := HL.out; have h9 := HF.out; omega
          have M1 : Hid (MS1 g A X1 X2 Y1 Y2 B w wr) := Lib.hid (CN.out (fun hh => by have := hh.1; have := hh.2; omega))
          clear CR CN
          have CA1 := Lib.hid (C1.out _ M1 nU nT)
          go_wp2_with fail
          refine CA1.out.mono ?_
          rintro e w2 ⟨rfl, M2⟩
          clear C1 CA1 M1
          have M3 := Lib.hid (M2.out.skip HSo.out.2.1 HSo.out.2.2.2 (by have h8 := HL.out; first | exact .inr (List.eq_nil_of_length_eq_zero (by omega)) | exact .inl (List.eq_nil_of_length_eq_zero (by omega))))
          clear C2 M2
          go_wp2_with fail
          go_end0
          exact ⟨rfl, (CE.out _ M3).1, (CE.out _ M3).2⟩
        · have kP : decide ((s : Int) < (m : Int)) = false := by have h8 := HL.out; have h9 := HF.out; simp; omega
          have nP : ¬ s < m := by have h8 := HL.out; have h9 := HF.out; omega
          have kQ : decide ((m : Int) < (en : Int)) = false := by have h8 := HL.out; have h9 := HF.out; simp; omega
          have nQ : ¬ m < en := by have h8 := HL.out; have h9 := HF.out; omega
          have kU : decide ((a : Int) < (s : Int)) = true := by have h8 := HL.out; have h9 := HF.out; simp; omega
          have nU : a < s := by have h8 := HL.out; have h9 := HF.out; omega
          have kT : decide ((s : Int) < (md : Int)) = false := by have h8 := HL.out; have h9 := HF.out; simp; omega
          have nT : ¬ s < md := by have h8 := HL.out; have h9 := HF.out; omega
          have kS : decide ((md : Int) < (en : Int)) = false := by have h8 := HL.out; have h9 := HF.out; simp; omega
          have nS : ¬ md < en := by have h8 := HL.out; have h9 := HF.out; omega
          have M1 : Hid (MS1 g A X1 X2 Y1 Y2 B w wr) := Lib.hid (CN.out (fun hh => by have := hh.1; have := hh.2; omega))
          clear CR CN
          have M2 := Lib.hid (M1.out.skip HSo.out.1 HSo.out.2.2.1 (by have h8 := HL.out; first | exact .inr (List.eq_nil_of_length_eq_zero (by omega)) | exact .inl (List.eq_nil_of_length_eq_zero (by omega))))
          clear C1 M1
          have M3 := Lib.hid (M2.out.skip HSo.out.2.1 HSo.out.2.2.2 (by have h8 := HL.out; first | exact .inr (List.eq_nil_of_length_eq_zero (by omega)) | exact .inl (List.eq_nil_of_length_eq_zero (by omega))))
          clear C2 M2
          go_wp2_with fail
          go_end0
          exact ⟨rfl, (CE.out _ M3).1, (CE.out _ M3).2⟩
end Go.Proofs.YtknnjnginmkblaaDoor
