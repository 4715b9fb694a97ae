/- Walks: parts of a row exchanged; the insertion sort. -/
import Derived.BigRegion
import Derived.Test.YtknnjnginmkblaaDoorSt
import Derived.Test.YtknnjnginmkblaaDoorOrders
import Derived.Test.YtknnjnginmkblaaDoorR7
namespace Go.Proofs.YtknnjnginmkblaaDoor
theorem grown_set' (w : World) (g j : Nat) (u : Value) : w.grownBy (w.setCell ⟨g, j, none⟩ u) (some g) :=
  ⟨rfl, rfl, rfl, by simp, fun k _ hk => RowKit.Below.heap_setCell w ⟨g, j, none⟩ u k (fun e => hk (by simp [e]))⟩
section
open Go.RowKit

abbrev Dec := ByteArray × ByteArray
def encD (x : Dec) : List Value := [.string x.1, .string x.2]
/-- A row of decorated strings in a block. -/
def ArrD (g : Nat) (L : List Dec) (w : World) : Prop := ∃ cur : Array Value, w.heap[g]? = some (.cells cur 80 (0, 0)) ∧ cur.toList.take (L.length * 2) = L.flatMap encD
theorem flat_lenD : ∀ (L : List Dec), (L.flatMap encD).length = L.length * 2
  | [] => rfl
  | x :: r => by rw [List.flatMap_cons, List.length_append, flat_lenD r]; simp [encD]; omega
theorem key_flat {x : Dec} : ∀ (L : List Dec) (i : Nat), L[i]? = some x → (L.flatMap encD)[i * 2]? = some (.string x.1) ∧ (L.flatMap encD)[i * 2 + 1]? = some (.string x.2)
  | [], i, h => by simp at h
  | y :: r, 0, h => by
    simp only [List.getElem?_cons_zero, Option.some.injEq] at h
    subst h
    exact ⟨rfl, rfl⟩
  | y :: r, i + 1, h => by
    rw [List.getElem?_cons_succ] at h
    obtain ⟨h1, h2⟩ := key_flat r i h
    rw [List.flatMap_cons, show (i + 1) * 2 = i * 2 + 2 by omega]
    exact ⟨h1, h2⟩
theorem ArrD.cells {g : Nat} {L : List Dec} {w : World} (h : ArrD g L w) {i : Nat} {x : Dec} (hx : L[i]? = some x) :
    w.cell? ⟨g, i * 2, none⟩ = some (.string x.1) ∧ w.cell? ⟨g, i * 2 + 1, none⟩ = some (.string x.2) ∧ w.frozen? ⟨g, i * 2, none⟩ = false ∧ w.frozen? ⟨g, i * 2 + 1, none⟩ = false := by
  obtain ⟨cur, hb, ht⟩ := h
  have hi := (List.getElem?_eq_some_iff.1 hx).1
  obtain ⟨h1, h2⟩ := key_flat L i hx
  rw [← ht, List.getElem?_take_of_lt (by omega)] at h1 h2
  refine ⟨?_, ?_, blk_free hb _, blk_free hb _⟩
  · rw [cell_of_row w g _ cur 80 _ hb]; simpa using h1
  · rw [cell_of_row w g _ cur 80 _ hb]; simpa using h2
/-- Cells of a row set. -/
theorem set_pair : ∀ (P : List Dec) (x y : Dec) (Q : List Dec) (R : List Value), ((((P ++ x :: Q).flatMap encD ++ R).set (P.length * 2) (.string y.1)).set (P.length * 2 + 1) (.string y.2)) = (P ++ y :: Q).flatMap encD ++ R
  | [], x, y, Q, R => rfl
  | p :: P, x, y, Q, R => by
    have ih := set_pair P x y Q R
    simp only [List.cons_append, List.flatMap_cons, List.append_assoc, List.length_cons]
    rw [show (P.length + 1) * 2 = P.length * 2 + 1 + 1 by omega]
    show encD p ++ _ = _
    simp only [List.flatMap_append, List.flatMap_cons, List.append_assoc] at ih ⊢
    rw [← ih]
    rfl
theorem ArrD.set {g : Nat} {P Q : List Dec} {x : Dec} {w : World} (h : ArrD g (P ++ x :: Q) w) (y : Dec) :
    ArrD g (P ++ y :: Q) ((w.setCell ⟨g, P.length * 2, none⟩ (.string y.1)).setCell ⟨g, P.length * 2 + 1, none⟩ (.string y.2)) := by
  obtain ⟨cur, hb, ht⟩ := h
  refine ⟨(cur.setIfInBounds (P.length * 2) (.string y.1)).setIfInBounds (P.length * 2 + 1) (.string y.2), heap_setCell_same _ g _ _ 80 _ (heap_setCell_same w g _ cur 80 _ hb), ?_⟩
  have hl : (P ++ y :: Q).length = (P ++ x :: Q).length := by simp
  have hd : cur.toList = (P ++ x :: Q).flatMap encD ++ cur.toList.drop ((P ++ x :: Q).length * 2) := by rw [← ht, List.take_append_drop]
  rw [Array.toList_setIfInBounds, Array.toList_setIfInBounds, hd, set_pair, hl]
  have : ((P ++ y :: Q).flatMap encD).length = (P ++ x :: Q).length * 2 := by rw [flat_lenD, hl]
  rw [← this, List.take_left]
theorem grown_pair (w : World) (g a b : Nat) (u v : Value) : w.grownBy ((w.setCell ⟨g, a, none⟩ u).setCell ⟨g, b, none⟩ v) (some g) := (grown_set' w g a u).trans (grown_set' _ g b v)
/-- Two elements exchanged: the earlier one stored first. -/
theorem ArrD.swap {g : Nat} {P M Q : List Dec} {x y : Dec} {w : World} (h : ArrD g (P ++ x :: (M ++ y :: Q)) w) {i j : Nat} (hi : i = P.length) (hj : j = P.length + 1 + M.length) :
    ArrD g (P ++ y :: (M ++ x :: Q)) ((((w.setCell ⟨g, i * 2, none⟩ (.string y.1)).setCell ⟨g, i * 2 + 1, none⟩ (.string y.2)).setCell ⟨g, j * 2, none⟩ (.string x.1)).setCell ⟨g, j * 2 + 1, none⟩ (.string x.2)) := by
  have h1 := h.set y
  have e : P ++ y :: (M ++ y :: Q) = (P ++ y :: M) ++ y :: Q := by simp
  have e2 : P ++ y :: (M ++ x :: Q) = (P ++ y :: M) ++ x :: Q := by simp
  rw [e] at h1
  have h2 := h1.set x
  have hl : (P ++ y :: M).length = j := by rw [hj]; simp; omega
  rw [hl, ← hi] at h2
  rw [e2]
  exact h2
/-- .. the later one first. -/
theorem ArrD.swap' {g : Nat} {P M Q : List Dec} {x y : Dec} {w : World} (h : ArrD g (P ++ x :: (M ++ y :: Q)) w) {i j : Nat} (hi : i = P.length) (hj : j = P.length + 1 + M.length) :
    ArrD g (P ++ y :: (M ++ x :: Q)) ((((w.setCell ⟨g, j * 2, none⟩ (.string x.1)).setCell ⟨g, j * 2 + 1, none⟩ (.string x.2)).setCell ⟨g, i * 2, none⟩ (.string y.1)).setCell ⟨g, i * 2 + 1, none⟩ (.string y.2)) := by
  have e : P ++ x :: (M ++ y :: Q) = (P ++ x :: M) ++ y :: Q := by simp
  rw [e] at h
  have h1 := h.set x
  have e2 : (P ++ x :: M) ++ x :: Q = P ++ x :: (M ++ x :: Q) := by simp
  have hl : (P ++ x :: M).length = j := by rw [hj]; simp; omega
  rw [hl, e2] at h1
  have h2 := h1.set y
  rw [← hi] at h2
  exact h2
theorem grown_four (w : World) (g a b c d : Nat) (u v x y : Value) : w.grownBy ((((w.setCell ⟨g, a, none⟩ u).setCell ⟨g, b, none⟩ v).setCell ⟨g, c, none⟩ x).setCell ⟨g, d, none⟩ y) (some g) := (grown_pair w g a b u v).trans (grown_pair _ g c d x y)
theorem ArrD.over {g : Nat} {L : List Dec} {w w' : World} (h : ArrD g L w) (hb : Below w.heap.size w w') : ArrD g L w' := by
  obtain ⟨cur, h1, h2⟩ := h
  exact ⟨cur, below_block hb h1 (heap_lt h1), h2⟩
theorem ArrD.drew {g : Nat} {L : List Dec} {w : World} (h : ArrD g L w) : ArrD g L w.drew := h
theorem grown_drew {a b : World} {row : Option Nat} (h : a.grownBy b row) : a.grownBy b.drew row := ⟨h.os, h.tape, h.output, h.size, h.block⟩
theorem ArrD.lt {g : Nat} {L : List Dec} {w : World} (h : ArrD g L w) : g < w.heap.size := by
  obtain ⟨cur, h1, _⟩ := h
  exact heap_lt h1

set_option maxRecDepth 100000 in
set_option maxHeartbeats 8000000 in
theorem swapRange_lib (g cap a b n N : Nat) (A X M Y B : List Dec) (f : Value) (w : World) (h : ArrD g (A ++ (X ++ (M ++ (Y ++ B)))) w) (hN : N = (A ++ (X ++ (M ++ (Y ++ B)))).length) (ha : a = A.length) (hb : b = A.length + X.length + M.length) (hn : n = X.length) (hy : n = Y.length) (hNb : N ≤ 1048576) :
    Calls Tryd.prog 92 #[.slice (some ⟨g, 0, none⟩) N cap, .int .i64 (a : Int), .int .i64 (b : Int), .int .i64 (n : Int), f] w fun e w' => e = .returned (.tuple #[]) ∧ ArrD g (A ++ (Y ++ (M ++ (X ++ B)))) w' ∧ w.grownBy w' (some g) := by
  have hsz : N = a + n + M.length + n + B.length := by rw [hN, ha, hn]; simp only [List.length_append]; omega
  have hbb : b + n ≤ N := by omega
  have hab : a + n ≤ b := by omega
  have H0 := Lib.hid h
  have HL : Hid (a = A.length ∧ b = A.length + X.length + M.length ∧ n = X.length ∧ n = Y.length) := Lib.hid ⟨ha, hb, hn, hy⟩
  clear h hN ha hb hn hy hsz
  go_enter Tryd.func92, Tryd.ntmps92
  go_wp2_with fail
  go_loopw [10] (fun iv wr => ∃ i : Nat, i ≤ n ∧ iv = .int .i64 (i : Int) ∧ Hid (ArrD g (A ++ (Y.take i ++ (X.drop i ++ (M ++ (X.take i ++ (Y.drop i ++ B)))))) wr ∧ w.grownBy wr (some g))) (fun iv _ => n - (intOf iv).toNat)
  case atStart => exact ⟨0, Nat.zero_le _, rfl, Lib.hid ⟨H0.out, grown_refl _ _⟩⟩
  case round =>
    obtain ⟨i, hi, rfl, HA⟩ := hrel
    by_cases hlt : i < n
    · have hlt' : (i : Int) < (n : Int) := by omega
      obtain ⟨h1, h2, h3, h4⟩ := HL.out
      obtain ⟨x, hx⟩ : ∃ x, X[i]? = some x := ⟨X[i]'(by omega), by simp⟩
      obtain ⟨y, hy⟩ : ∃ y, Y[i]? = some y := ⟨Y[i]'(by omega), by simp⟩
      have ex : X.drop i = x :: X.drop (i + 1) := by rw [List.drop_eq_getElem_cons (by omega), (List.getElem?_eq_some_iff.1 hx).2]
      have ey : Y.drop i = y :: Y.drop (i + 1) := by rw [List.drop_eq_getElem_cons (by omega), (List.getElem?_eq_some_iff.1 hy).2]
      have fx : X.take (i + 1) = X.take i ++ [x] := by rw [List.take_add_one, hx]; rfl
      have fy : Y.take (i + 1) = Y.take i ++ [y] := by rw [List.take_add_one, hy]; rfl
      have e1 : A ++ (Y.take i ++ (X.drop i ++ (M ++ (X.take i ++ (Y.drop i ++ B))))) = (A ++ Y.take i) ++ x :: ((X.drop (i + 1) ++ (M ++ X.take i)) ++ y :: (Y.drop (i + 1) ++ B)) := by rw [ex, ey]; simp only [List.append_assoc, List.cons_append]
      have e2 : A ++ (Y.take (i + 1) ++ (X.drop (i + 1) ++ (M ++ (X.take (i + 1) ++ (Y.drop (i + 1) ++ B))))) = (A ++ Y.take i) ++ y :: ((X.drop (i + 1) ++ (M ++ X.take i)) ++ x :: (Y.drop (i + 1) ++ B)) := by rw [fx, fy]; simp only [List.append_assoc, List.cons_append, List.nil_append]
      obtain ⟨p, hp⟩ : ∃ p, p = a + i := ⟨_, rfl⟩
      obtain ⟨q, hq⟩ : ∃ q, q = b + i := ⟨_, rfl⟩
      have lp : p = (A ++ Y.take i).length := by rw [List.length_append, List.length_take]; omega
      have lq : q = (A ++ Y.take i).length + 1 + (X.drop (i + 1) ++ (M ++ X.take i)).length := by simp only [List.length_append, List.length_take, List.length_drop]; omega
      have hA1 := HA.out.1
      rw [e1] at hA1
      have gx : ((A ++ Y.take i) ++ x :: ((X.drop (i + 1) ++ (M ++ X.take i)) ++ y :: (Y.drop (i + 1) ++ B)))[p]? = some x := by rw [lp]; simp
      have gy : ((A ++ Y.take i) ++ x :: ((X.drop (i + 1) ++ (M ++ X.take i)) ++ y :: (Y.drop (i + 1) ++ B)))[q]? = some y := by
        rw [show (A ++ Y.take i) ++ x :: ((X.drop (i + 1) ++ (M ++ X.take i)) ++ y :: (Y.drop (i + 1) ++ B)) = ((A ++ Y.take i) ++ x :: (X.drop (i + 1) ++ (M ++ X.take i))) ++ y :: (Y.drop (i + 1) ++ B) by simp only [List.append_assoc, List.cons_append]]
        rw [lq, List.getElem?_append_right (by simp only [List.length_append, List.length_cons]; omega)]
        rw [show ∀ z, (A ++ Y.take i).length + 1 + (X.drop (i + 1) ++ (M ++ X.take i)).length - z = (A ++ Y.take i).length + 1 + (X.drop (i + 1) ++ (M ++ X.take i)).length - z from fun _ => rfl]
        have : (A ++ Y.take i).length + 1 + (X.drop (i + 1) ++ (M ++ X.take i)).length - ((A ++ Y.take i) ++ x :: (X.drop (i + 1) ++ (M ++ X.take i))).length = 0 := by simp only [List.length_append, List.length_cons]; omega
        rw [this]; rfl
      obtain ⟨c1, c2, f1, f2⟩ := hA1.cells gx
      obtain ⟨c3, c4, f3, f4⟩ := hA1.cells gy
      have HS := Lib.hid (hA1.swap lp lq)
      rw [← e2] at HS
      have HG := Lib.hid HA.out.2
      have w1 : IntKind.i64.wrap ((a : Int) + (i : Int)) = (p : Int) := by rw [IntWalk.i64_in _ (by omega)]; omega
      have w2 : IntKind.i64.wrap ((b : Int) + (i : Int)) = (q : Int) := by rw [IntWalk.i64_in _ (by omega)]; omega
      have w3 : IntKind.i64.wrap ((i : Int) + 1) = (i : Int) + 1 := IntWalk.i64_in _ (by omega)
      have p1 : (p : Int) < (N : Int) := by omega
      have q1 : (q : Int) < (N : Int) := by omega
      have hpq : p < q := by omega
      obtain ⟨x1, x2⟩ := x
      obtain ⟨y1, y2⟩ := y
      simp only at c1 c2 c3 c4 HS
      clear ex ey fx fy e1 e2 hx hy gx gy lp lq hA1 h1 h2 h3 h4 HA hp hq
      go_upto_region 3 with fail
      go_region
      have HR := Lib.hid (ArrD.drew HS.out)
      have HQ := Lib.hid (grown_drew (HG.out.trans (grown_four wr g (p * 2) (p * 2 + 1) (q * 2) (q * 2 + 1) (.string y1) (.string y2) (.string x1) (.string x2))))
      obtain ⟨w9, hw9⟩ : ∃ w9, w9 = ((((wr.setCell ⟨g, p * 2, none⟩ (.string y1)).setCell ⟨g, p * 2 + 1, none⟩ (.string y2)).setCell ⟨g, q * 2, none⟩ (.string x1)).setCell ⟨g, q * 2 + 1, none⟩ (.string x2)).drew := ⟨_, rfl⟩
      rw [← hw9] at HR HQ ⊢
      clear hw9 HS HG c1 c2 c3 c4 f1 f2 f3 f4
      go_wp2_with fail
      go_roundw
      case rel => exact ⟨i + 1, by omega, by go_num, Lib.hid ⟨HR.out, HQ.out⟩⟩
      case measure => simp [intOf]; omega
    · have hin : i = n := by omega
      have hlt' : ¬ (i : Int) < (n : Int) := by omega
      go_wp2_with fail
      go_end0
      obtain ⟨h1, h2, h3, h4⟩ := HL.out
      have hA := HA.out.1
      rw [hin, List.take_of_length_le (by omega), List.take_of_length_le (by omega), List.drop_eq_nil_of_le (by omega), List.drop_eq_nil_of_le (by omega)] at hA
      exact ⟨rfl, by simpa using hA, HA.out.2⟩
end
section
open Go.RowKit

def RotI (g m i j : Nat) (F : List Dec) (w0 wr : World) : Prop :=
  ∃ P U V Q : List Dec, U.length = i ∧ V.length = j ∧ m = P.length + i ∧ P ++ (V ++ (U ++ Q)) = F ∧ ArrD g (P ++ (U ++ (V ++ Q))) wr ∧ w0.grownBy wr (some g)
def SwapE (g : Nat) (L : List Dec) (w : World) (e : Ending) (w' : World) : Prop := e = .returned (.tuple #[]) ∧ ArrD g L w' ∧ w.grownBy w' (some g)

set_option maxRecDepth 100000 in
set_option maxHeartbeats 8000000 in
theorem rotate_lib (g cap a m b N : Nat) (A X Y B : List Dec) (f : Value) (w : World) (h : ArrD g (A ++ (X ++ (Y ++ B))) w) (hN : N = (A ++ (X ++ (Y ++ B))).length) (ha : a = A.length) (hm : m = A.length + X.length) (hb : b = A.length + X.length + Y.length) (hx : 0 < X.length) (hy : 0 < Y.length) (hNb : N ≤ 1048576) :
    Calls Tryd.prog 89 #[.slice (some ⟨g, 0, none⟩) N cap, .int .i64 (a : Int), .int .i64 (m : Int), .int .i64 (b : Int), f] w (SwapE g (A ++ (Y ++ (X ++ B))) w) := by
  obtain ⟨F, hF⟩ : ∃ F, F = A ++ (Y ++ (X ++ B)) := ⟨_, rfl⟩
  have hNF : N = F.length := by rw [hN, hF]; simp only [List.length_append]; omega
  have hmb : m < b := by omega
  have ham : a < m := by omega
  have hbN : b ≤ N := by rw [hN]; simp only [List.length_append]; omega
  obtain ⟨i0, hi0⟩ : ∃ i0, i0 = X.length := ⟨_, rfl⟩
  obtain ⟨j0, hj0⟩ : ∃ j0, j0 = Y.length := ⟨_, rfl⟩
  have H0 : Hid (RotI g m i0 j0 F w w) := Lib.hid ⟨A, X, Y, B, hi0.symm, hj0.symm, by omega, hF.symm, h, grown_refl _ _⟩
  have hxi : 0 < i0 := by omega
  have hyj : 0 < j0 := by omega
  have him0 : i0 ≤ m := by omega
  have hjN0 : m + j0 ≤ N := by omega
  have s1 : IntKind.i64.wrap ((m : Int) - (a : Int)) = (i0 : Int) := by rw [IntWalk.i64_in _ (by omega)]; omega
  have s2 : IntKind.i64.wrap ((b : Int) - (m : Int)) = (j0 : Int) := by rw [IntWalk.i64_in _ (by omega)]; omega
  have HNF := Lib.hid hNF
  rw [← hF]
  clear hF h hN ha hm hb hx hy hi0 hj0 hNF
  go_enter Tryd.func89, Tryd.ntmps89
  go_wp2_with fail
  go_loopw [10, 11] (fun iv jv wr => ∃ i j : Nat, 0 < i ∧ 0 < j ∧ iv = .int .i64 (i : Int) ∧ jv = .int .i64 (j : Int) ∧ i ≤ m ∧ m + j ≤ N ∧ Hid (RotI g m i j F w wr)) (fun iv jv _ => (intOf iv + intOf jv).toNat)
  case atStart => exact ⟨i0, j0, hxi, hyj, rfl, rfl, him0, hjN0, H0⟩
  case round =>
    obtain ⟨i, j, hi, hj, rfl, rfl, him, hjN, HR⟩ := hrel
    clear H0 hxi hyj s1 s2 ham hmb
    obtain ⟨p, hp⟩ : ∃ p : Nat, p = m - i := ⟨_, rfl⟩
    have e1 : IntKind.i64.wrap ((m : Int) - (i : Int)) = (p : Int) := by rw [IntWalk.i64_in _ (by omega)]; omega
    by_cases hij : i = j
    · subst hij
      have CS : Hid (∀ f : Value, Calls Tryd.prog 92 #[.slice (some ⟨g, 0, none⟩) N cap, .int .i64 (p : Int), .int .i64 (m : Int), .int .i64 (i : Int), f] wr fun e w' => e = .returned (.tuple #[]) ∧ Hid (ArrD g F w' ∧ w.grownBy w' (some g))) := Lib.hid (fun f => by
        obtain ⟨P, U, V, Q, hU, hV, hm, hF, hA, hG⟩ := HR.out
        have hN2 : N = (P ++ (U ++ ([] ++ (V ++ Q)))).length := by rw [HNF.out, ← hF]; simp only [List.length_append, List.length_nil]; omega
        refine (swapRange_lib g cap p m i N P U [] V Q f wr hA hN2 (by omega) (by simp; omega) hU.symm (by omega) hNb).mono ?_
        rintro e w' ⟨he, h1, h2⟩
        refine ⟨he, Lib.hid ⟨?_, hG.trans h2⟩⟩
        rw [← hF]; exact h1)
      clear HR hp
      go_wp2_with fail
      refine (CS.out _).mono ?_
      rintro e w2 ⟨rfl, HW⟩
      go_wp2_with fail
      go_end0
      exact ⟨rfl, HW.out.1, HW.out.2⟩
    · have d1 : ((i : Int) != (j : Int)) = true := by simp; omega
      by_cases hlt : j < i
      · have d2 : (j : Int) < (i : Int) := by omega
        obtain ⟨k, hk⟩ : ∃ k : Nat, k = i - j := ⟨_, rfl⟩
        have e2 : IntKind.i64.wrap ((i : Int) - (j : Int)) = (k : Int) := by rw [IntWalk.i64_in _ (by omega)]; omega
        have CS : Hid (∀ f : Value, Calls Tryd.prog 92 #[.slice (some ⟨g, 0, none⟩) N cap, .int .i64 (p : Int), .int .i64 (m : Int), .int .i64 (j : Int), f] wr fun e w' => e = .returned (.tuple #[]) ∧ Hid (RotI g m k j F w w')) := Lib.hid (fun f => by
          obtain ⟨P, U, V, Q, hU, hV, hm, hF, hA, hG⟩ := HR.out
          have hUs : U = U.take j ++ U.drop j := (List.take_append_drop j U).symm
          have l1 : (U.take j).length = j := by rw [List.length_take]; omega
          have l2 : (U.drop j).length = k := by rw [List.length_drop]; omega
          have hA2 : ArrD g (P ++ (U.take j ++ (U.drop j ++ (V ++ Q)))) wr := by rw [← List.append_assoc (U.take j), ← hUs]; exact hA
          have hN2 : N = (P ++ (U.take j ++ (U.drop j ++ (V ++ Q)))).length := by rw [HNF.out, ← hF]; simp only [List.length_append]; omega
          refine (swapRange_lib g cap p m j N P (U.take j) (U.drop j) V Q f wr hA2 hN2 (by omega) (by omega) l1.symm hV.symm hNb).mono ?_
          rintro e w' ⟨he, h1, h2⟩
          refine ⟨he, Lib.hid ⟨P ++ V, U.drop j, U.take j, Q, l2, l1, by rw [List.length_append]; omega, ?_, ?_, hG.trans h2⟩⟩
          · rw [← hF]
            conv => rhs; rw [hUs]
            simp only [List.append_assoc]
          · rw [List.append_assoc]; exact h1)
        have hkm : k ≤ m := by omega
        have hk0 : 0 < k := by omega
        have hki : k < i := by omega
        clear HR hp hk
        go_wp2_with fail
        refine (CS.out _).mono ?_
        rintro e w2 ⟨rfl, HW⟩
        go_wp2_with fail
        go_roundw
        case rel => exact ⟨k, j, hk0, hj, by go_num, rfl, hkm, hjN, HW⟩
        case measure => simp [intOf]; omega
      · have d2 : ¬ (j : Int) < (i : Int) := by omega
        obtain ⟨k, hk⟩ : ∃ k : Nat, k = j - i := ⟨_, rfl⟩
        have e2 : IntKind.i64.wrap ((j : Int) - (i : Int)) = (k : Int) := by rw [IntWalk.i64_in _ (by omega)]; omega
        obtain ⟨q, hq⟩ : ∃ q : Nat, q = m + k := ⟨_, rfl⟩
        have e3 : IntKind.i64.wrap ((m : Int) + (j : Int)) = (m : Int) + (j : Int) := IntWalk.i64_in _ (by omega)
        have e4 : IntKind.i64.wrap ((m : Int) + (j : Int) - (i : Int)) = (q : Int) := by rw [IntWalk.i64_in _ (by omega)]; omega
        have CS : Hid (∀ f : Value, Calls Tryd.prog 92 #[.slice (some ⟨g, 0, none⟩) N cap, .int .i64 (p : Int), .int .i64 (q : Int), .int .i64 (i : Int), f] wr fun e w' => e = .returned (.tuple #[]) ∧ Hid (RotI g m i k F w w')) := Lib.hid (fun f => by
          obtain ⟨P, U, V, Q, hU, hV, hm, hF, hA, hG⟩ := HR.out
          have hVs : V = V.take k ++ V.drop k := (List.take_append_drop k V).symm
          have l1 : (V.take k).length = k := by rw [List.length_take]; omega
          have l2 : (V.drop k).length = i := by rw [List.length_drop]; omega
          have hA2 : ArrD g (P ++ (U ++ (V.take k ++ (V.drop k ++ Q)))) wr := by rw [← List.append_assoc (V.take k), ← hVs]; exact hA
          have hN2 : N = (P ++ (U ++ (V.take k ++ (V.drop k ++ Q)))).length := by rw [HNF.out, ← hF]; simp only [List.length_append]; omega
          refine (swapRange_lib g cap p q i N P U (V.take k) (V.drop k) Q f wr hA2 hN2 (by omega) (by omega) hU.symm l2.symm hNb).mono ?_
          rintro e w' ⟨he, h1, h2⟩
          refine ⟨he, Lib.hid ⟨P, V.drop k, V.take k, U ++ Q, l2, l1, by omega, ?_, h1, hG.trans h2⟩⟩
          rw [← hF]
          conv => rhs; rw [hVs]
          simp only [List.append_assoc])
        have hk0 : 0 < k := by omega
        have hkj : k < j := by omega
        have hkN : m + k ≤ N := by omega
        clear HR hp hk hq
        go_wp2_with fail
        refine (CS.out _).mono ?_
        rintro e w2 ⟨rfl, HW⟩
        go_wp2_with fail
        go_roundw
        case rel => exact ⟨i, k, hi, hk0, rfl, by go_num, him, hkN, HW⟩
        case measure => simp [intOf]; omega
end
section
open Go.RowKit

abbrev fnD : Value := .func (.func 50) #[] #[]
def cfD (x y : Dec) : Int := ordL (bytesN x.1) (bytesN y.1)
theorem cfD_ordr : Ordr cfD where
  anti x y := ordL_anti _ _
  trans x y z h1 h2 := by
    unfold cfD at *
    rcases ordL_range (bytesN x.1) (bytesN y.1) with a | a | a
    · rcases ordL_range (bytesN y.1) (bytesN z.1) with b | b | b
      · have := ordL_trans _ _ _ (by omega : ordL (bytesN x.1) (bytesN y.1) < 0) (by omega : ordL (bytesN y.1) (bytesN z.1) < 0); omega
      · rw [← ordL_eq _ _ b]; omega
      · omega
    · rw [ordL_eq _ _ a]; exact h2
    · omega
theorem grown_below {a b c : World} {row : Option Nat} (h : a.grownBy b row) (hb : Below b.heap.size b c) : a.grownBy c row :=
  h.trans ⟨hb.os, hb.tape, hb.output, hb.size, fun k hk _ => hb.block k hk⟩

set_option maxRecDepth 100000 in
set_option maxHeartbeats 1000000 in
theorem isNaN_str (x : ByteArray) (w : World) : Calls Tryd.prog 66 #[.string x] w fun e w' => e = .returned (.bool false) ∧ w = w' := by
  go_enter Tryd.func66, Tryd.ntmps66
  go_wp2_with fail
  go_ret
  exact ⟨ret_bool (by simp), rfl⟩

set_option maxRecDepth 100000 in
set_option maxHeartbeats 2000000 in
theorem cmpStr_lib (a b : ByteArray) (w : World) : Calls Tryd.prog 51 #[.string a, .string b] w fun e w' => e = .returned (.int .i64 (ordL (bytesN a) (bytesN b))) ∧ w = w' := by
  have hb := bl_ord a b
  have hc := bl_ord b a
  have hr := ordL_range (bytesN a) (bytesN b)
  rw [ordL_anti (bytesN a) (bytesN b)] at hc
  have he : (a.toList == b.toList) = decide (ordL (bytesN a) (bytesN b) = 0) := by
    rw [eq_toList]
    by_cases h : a = b
    · subst h; simp [ordL_refl]
    · have : ordL (bytesN a) (bytesN b) ≠ 0 := fun h2 => h (bytesN_inj (ordL_eq _ _ h2))
      simp [h, this]
  obtain ⟨R, hR⟩ : ∃ R, R = ordL (bytesN a) (bytesN b) := ⟨_, rfl⟩
  rw [← hR] at hb hc hr he ⊢
  clear hR
  rcases hr with rfl | rfl | rfl
  · have hb' : Op.bytesLess a.toList b.toList = true := by rw [hb]; rfl
    clear hb hc he
    go_enter Tryd.func51, Tryd.ntmps51
    go_wp2_with fail
    refine (isNaN_str _ _).mono ?_
    rintro e w1 ⟨rfl, rfl⟩
    go_wp2_with fail
    refine (isNaN_str _ _).mono ?_
    rintro e w1 ⟨rfl, rfl⟩
    go_wp2_with fail
    go_ret
    exact ⟨rfl, rfl⟩
  · have hb' : Op.bytesLess a.toList b.toList = false := by rw [hb]; rfl
    have hc' : Op.bytesLess b.toList a.toList = false := by rw [hc]; rfl
    have he' : (a.toList == b.toList) = true := by rw [he]; rfl
    clear hb hc he
    go_enter Tryd.func51, Tryd.ntmps51
    go_wp2_with fail
    refine (isNaN_str _ _).mono ?_
    rintro e w1 ⟨rfl, rfl⟩
    go_wp2_with fail
    refine (isNaN_str _ _).mono ?_
    rintro e w1 ⟨rfl, rfl⟩
    go_wp2_with fail
    go_ret
    exact ⟨rfl, rfl⟩
  · have hb' : Op.bytesLess a.toList b.toList = false := by rw [hb]; rfl
    have hc' : Op.bytesLess b.toList a.toList = true := by rw [hc]; rfl
    have he' : (a.toList == b.toList) = false := by rw [he]; rfl
    clear hb hc he
    go_enter Tryd.func51, Tryd.ntmps51
    go_wp2_with fail
    refine (isNaN_str _ _).mono ?_
    rintro e w1 ⟨rfl, rfl⟩
    go_wp2_with fail
    refine (isNaN_str _ _).mono ?_
    rintro e w1 ⟨rfl, rfl⟩
    go_wp2_with fail
    go_ret
    exact ⟨rfl, rfl⟩

set_option maxRecDepth 100000 in
set_option maxHeartbeats 1000000 in
theorem sortcmp_lib (x y : Dec) (w : World) : Calls Tryd.prog 50 #[.agg #[.string x.1, .string x.2], .agg #[.string y.1, .string y.2]] w fun e w' => e = .returned (.int .i64 (cfD x y)) ∧ Below w.heap.size w w' := by
  go_enter Tryd.func50, Tryd.ntmps50
  go_wp2_with fail
  refine (cmpStr_lib x.1 y.1 _).mono ?_
  rintro e w1 ⟨rfl, rfl⟩
  go_wp2_with fail
  go_ret
  exact ⟨rfl, ((Below.refl _ _).alloc (Nat.le_refl _) _).alloc (by simp) _⟩

/-- Two neighbours. -/
theorem ArrD.pair {g : Nat} {P Q : List Dec} {x y : Dec} {w : World} (h : ArrD g (P ++ x :: y :: Q) w) {i j : Nat} (hi : i = P.length) (hj : j = i + 1) :
    (w.cell? ⟨g, i * 2, none⟩ = some (.string x.1) ∧ w.cell? ⟨g, i * 2 + 1, none⟩ = some (.string x.2) ∧ w.frozen? ⟨g, i * 2, none⟩ = false ∧ w.frozen? ⟨g, i * 2 + 1, none⟩ = false) ∧
    (w.cell? ⟨g, j * 2, none⟩ = some (.string y.1) ∧ w.cell? ⟨g, j * 2 + 1, none⟩ = some (.string y.2) ∧ w.frozen? ⟨g, j * 2, none⟩ = false ∧ w.frozen? ⟨g, j * 2 + 1, none⟩ = false) ∧
    ArrD g (P ++ y :: x :: Q) ((((w.setCell ⟨g, i * 2, none⟩ (.string y.1)).setCell ⟨g, i * 2 + 1, none⟩ (.string y.2)).setCell ⟨g, j * 2, none⟩ (.string x.1)).setCell ⟨g, j * 2 + 1, none⟩ (.string x.2)) ∧
    ArrD g (P ++ y :: x :: Q) ((((w.setCell ⟨g, j * 2, none⟩ (.string x.1)).setCell ⟨g, j * 2 + 1, none⟩ (.string x.2)).setCell ⟨g, i * 2, none⟩ (.string y.1)).setCell ⟨g, i * 2 + 1, none⟩ (.string y.2)) := by
  have g1 : (P ++ x :: y :: Q)[i]? = some x := by rw [hi]; simp
  have g2 : (P ++ x :: y :: Q)[j]? = some y := by rw [hj, hi, List.getElem?_append_right (by omega)]; simp
  have h2 : ArrD g (P ++ x :: ([] ++ y :: Q)) w := h
  exact ⟨h.cells g1, h.cells g2, h2.swap hi (by simp; omega), h2.swap' hi (by simp; omega)⟩

def PairK (g i j : Nat) (x y : Dec) (w : World) : Prop :=
  w.cell? ⟨g, i * 2, none⟩ = some (.string x.1) ∧ w.cell? ⟨g, i * 2 + 1, none⟩ = some (.string x.2) ∧ w.cell? ⟨g, j * 2, none⟩ = some (.string y.1) ∧ w.cell? ⟨g, j * 2 + 1, none⟩ = some (.string y.2)
theorem PairK.over {g i j : Nat} {x y : Dec} {w w' : World} (h : PairK g i j x y w) (hb : Below w.heap.size w w') : PairK g i j x y w' :=
  ⟨cell_over h.1 hb, cell_over h.2.1 hb, cell_over h.2.2.1 hb, cell_over h.2.2.2 hb⟩
theorem PairK.all {g i j : Nat} {x1 x2 y1 y2 : ByteArray} {w : World} (h : PairK g i j (x1, x2) (y1, y2) w) :
    w.cell? ⟨g, i * 2, none⟩ = some (.string x1) ∧ w.cell? ⟨g, i * 2 + 1, none⟩ = some (.string x2) ∧ w.cell? ⟨g, j * 2, none⟩ = some (.string y1) ∧ w.cell? ⟨g, j * 2 + 1, none⟩ = some (.string y2) ∧ PairK g i j (x1, x2) (y1, y2) w := ⟨h.1, h.2.1, h.2.2.1, h.2.2.2, h⟩
def InsI (g a i : Nat) (A X B : List Dec) (w0 wr : World) : Prop :=
  ∃ P R Z, X = P ++ R ∧ Srt cfD Z ∧ Same cfD P Z ∧ Z.length = P.length ∧ (P.length + a = i ∨ X = []) ∧ ArrD g (A ++ (Z ++ (R ++ B))) wr ∧ w0.grownBy wr (some g)
def InnI (g a j : Nat) (A Z T : List Dec) (y : Dec) (w0 wr : World) : Prop :=
  ∃ Z1 Z2, Z = Z1 ++ Z2 ∧ a + Z1.length = j ∧ (∀ z ∈ Z2, cfD y z < 0) ∧ ArrD g (A ++ (Z1 ++ y :: (Z2 ++ T))) wr ∧ w0.grownBy wr (some g)
theorem InsI.step {g a i : Nat} {A X B : List Dec} {w0 wr : World} (h : InsI g a i A X B w0 wr) (hai : a < i) (hi : i < a + X.length) :
    ∃ P R y Z, X = P ++ y :: R ∧ Srt cfD Z ∧ Same cfD P Z ∧ Z.length = P.length ∧ P.length + a = i ∧ ArrD g (A ++ (Z ++ y :: (R ++ B))) wr ∧ w0.grownBy wr (some g) := by
  obtain ⟨P, R, Z, hX, h1, h2, h3, h4, h5, h6⟩ := h
  have hl : X.length = P.length + R.length := by rw [hX, List.length_append]
  rcases h4 with h4 | h4
  · cases R with
    | nil => simp at hl; omega
    | cons y R => exact ⟨P, R, y, Z, hX, h1, h2, h3, h4, h5, h6⟩
  · subst h4
    simp at hi
    omega
theorem InsI.next {g a i : Nat} {A X B P R Z Z1 Z2 : List Dec} {y : Dec} {w0 wr : World} (hF : X = P ++ y :: R ∧ Srt cfD Z ∧ Same cfD P Z ∧ Z.length = P.length ∧ P.length + a = i) (hz : Z = Z1 ++ Z2) (h2 : ∀ z ∈ Z2, cfD y z < 0)
    (hend : Z1 = [] ∨ ∃ P1 q, Z1 = P1 ++ [q] ∧ ¬ cfD y q < 0) (hA : ArrD g (A ++ (Z1 ++ y :: (Z2 ++ (R ++ B)))) wr) (hG : w0.grownBy wr (some g)) : InsI g a (i + 1) A X B w0 wr := by
  obtain ⟨hX, hZ, hS, hl, hi⟩ := hF
  have hr := insert_round (Z1 := Z1) (Z2 := Z2) (y := y) cfD_ordr (by rw [← hz]; exact hZ) hend h2
  refine ⟨P ++ [y], R, Z1 ++ y :: Z2, by rw [hX]; simp, hr.1, (hS.app (Same.refl [y])).trans (by rw [hz]; exact hr.2), ?_, .inl (by simp; omega), ?_, hG⟩
  · rw [hz] at hl; simp at hl ⊢; omega
  · simpa using hA
def SortE (g : Nat) (A X B : List Dec) (w : World) (e : Ending) (w' : World) : Prop :=
  e = .returned (.tuple #[]) ∧ (∃ Z, Srt cfD Z ∧ Same cfD X Z ∧ Z.length = X.length ∧ ArrD g (A ++ (Z ++ B)) w') ∧ w.grownBy w' (some g)

set_option maxRecDepth 100000 in
set_option maxHeartbeats 8000000 in
theorem insertion_lib (g cap a b N : Nat) (A X B : List Dec) (w : World) (h : ArrD g (A ++ (X ++ B)) w) (hN : N = (A ++ (X ++ B)).length) (ha : a = A.length) (hb : b = A.length + X.length) (hNb : N ≤ 1048576) :
    Calls Tryd.prog 82 #[.slice (some ⟨g, 0, none⟩) N cap, .int .i64 (a : Int), .int .i64 (b : Int), fnD] w (SortE g A X B w) := by
  have H0 : Hid (InsI g a (a + 1) A X B w w) := Lib.hid (by
    cases X with
    | nil => exact ⟨[], [], [], rfl, srt_nil, Same.refl _, rfl, .inr rfl, h, grown_refl _ _⟩
    | cons x R => exact ⟨[x], R, [x], rfl, srt_one x, Same.refl _, rfl, .inl (by simp; omega), h, grown_refl _ _⟩)
  have HL : Hid (a = A.length ∧ b = A.length + X.length) := Lib.hid ⟨ha, hb⟩
  have hab : a ≤ b := by omega
  have hbN : b ≤ N := by rw [hN]; simp only [List.length_append]; omega
  have ea : IntKind.i64.wrap ((a : Int) + 1) = (a : Int) + 1 := IntWalk.i64_in _ (by omega)
  clear h hN ha hb
  go_enter Tryd.func82, Tryd.ntmps82
  go_wp2_with fail
  go_loopw [8] (fun iv wr => ∃ i : Nat, a < i ∧ iv = .int .i64 (i : Int) ∧ i ≤ N + 1 ∧ Hid (InsI g a i A X B w wr)) (fun iv _ => (N + 2 - (intOf iv).toNat))
  case atStart => exact ⟨a + 1, by omega, by go_num, by omega, H0⟩
  case round =>
    obtain ⟨i, hai, rfl, hiN, HR⟩ := hrel
    clear H0 ea
    by_cases hlt : i < b
    · have hlt' : (i : Int) < (b : Int) := by omega
      obtain ⟨P, R, y, Z, hX, hZ, hS, hl, hPi, hA, hG⟩ := HR.out.step hai (by have := HL.out; omega)
      have HF : Hid (X = P ++ y :: R ∧ Srt cfD Z ∧ Same cfD P Z ∧ Z.length = P.length ∧ P.length + a = i) := Lib.hid ⟨hX, hZ, hS, hl, hPi⟩
      have HJ : Hid (InnI g a i A Z (R ++ B) y w wr) := Lib.hid ⟨Z, [], by simp, by omega, (fun z hz => absurd hz (by simp)), by simpa using hA, hG⟩
      clear hX hZ hS hl hPi hA hG HR
      go_wp2_with fail
      go_loopw [9] (fun jv wr => ∃ j : Nat, a ≤ j ∧ j ≤ i ∧ jv = .int .i64 (j : Int) ∧ Hid (InnI g a j A Z (R ++ B) y w wr)) (fun jv _ => (intOf jv).toNat)
      case atStart => exact ⟨i, by omega, Nat.le_refl _, rfl, HJ⟩
      case round =>
        obtain ⟨j, haj, hji, rfl, HK⟩ := hrel
        clear HJ
        by_cases hj : a < j
        · have hj' : (a : Int) < (j : Int) := by omega
          have dj : decide ((a : Int) < (j : Int)) = true := by simpa using hj
          obtain ⟨Z1, Z2, hz, hjl, h2, hA, hG⟩ := HK.out
          obtain ⟨P1, q, rfl⟩ : ∃ P1 q, Z1 = P1 ++ [q] := by
            rcases List.eq_nil_or_concat Z1 with e | ⟨P1, q, e⟩
            · subst e; simp at hjl; omega
            · exact ⟨P1, q, by simpa using e⟩
          have hA' : ArrD g ((A ++ P1) ++ q :: y :: (Z2 ++ (R ++ B))) wr := by simpa using hA
          obtain ⟨k, hk⟩ : ∃ k, k = (A ++ P1).length := ⟨_, rfl⟩
          have hjk : j = k + 1 := by
            have := HL.out.1
            simp only [List.length_append, List.length_singleton] at hk hjl
            omega
          obtain ⟨⟨c1, c2, _, _⟩, ⟨c3, c4, _, _⟩, _, _⟩ := hA'.pair hk hjk
          have HA2 := Lib.hid hA'
          have HH := Lib.hid (show Z = (P1 ++ [q]) ++ Z2 ∧ a + (P1 ++ [q]).length = j ∧ (∀ z ∈ Z2, cfD y z < 0) ∧ w.grownBy wr (some g) ∧ k = (A ++ P1).length from ⟨hz, hjl, h2, hG, hk⟩)
          have e1 : IntKind.i64.wrap ((j : Int) - 1) = (k : Int) := by rw [IntWalk.i64_in _ (by omega)]; omega
          have l1 : (j : Int) < (N : Int) := by omega
          have l2 : (k : Int) < (N : Int) := by omega
          have hkj : k < j := by omega
          have HJK := Lib.hid hjk
          clear hz hjl h2 hA hG hA' hk HK hjk
          have HC := Lib.hid (sortcmp_lib y q)
          obtain ⟨y1, y2⟩ := y
          obtain ⟨q1, q2⟩ := q
          simp only at c1 c2 c3 c4
          have BG : PairK g k j (q1, q2) (y1, y2) wr := ⟨c1, c2, c3, c4⟩
          obtain ⟨z, hz⟩ : ∃ z, z = cfD (y1, y2) (q1, q2) := ⟨_, rfl⟩
          rw [← hz] at HC
          have HZ := Lib.hid hz
          clear hz
          go_wp2_with fail
          go_region_held3 (fun w' => w'.cell? ⟨g, k * 2, none⟩ = some (.string q1) ∧ w'.cell? ⟨g, k * 2 + 1, none⟩ = some (.string q2) ∧ w'.cell? ⟨g, j * 2, none⟩ = some (.string y1) ∧ w'.cell? ⟨g, j * 2 + 1, none⟩ = some (.string y2) ∧ PairK g k j (q1, q2) (y1, y2) w') (first
            | exact PairK.all BG
            | (go_split_ands; exact PairK.all (PairK.over (by assumption) bx1)))
            (first
            | (go_at_call 50; (with_reducible refine (HC.out _).mono ?_); rintro e wx1 ⟨rfl, bx1⟩))
          have bx : Below wr.heap.size wr wx1 := (Below.refl _ wr).drew.trans bx1
          have HA3 := HA2.out.over bx
          by_cases h0 : z < 0
          · have d0 : decide (z < 0) = true := by simpa using h0
            obtain ⟨⟨e1', e2', f1, f2⟩, ⟨e3', e4', f3, f4⟩, _, HS⟩ := ArrD.pair (x := (q1, q2)) (y := (y1, y2)) HA3 HH.out.2.2.2.2 HJK.out
            have HS := Lib.hid HS
            simp only at e1' e2' e3' e4'
            clear HA3 BG HC bx1
            go_wp2_with fail
            go_region
            have HR := Lib.hid (ArrD.drew HS.out)
            have HQ := Lib.hid (grown_drew ((grown_below HH.out.2.2.2.1 bx).trans (grown_four wx1 g (j * 2) (j * 2 + 1) (k * 2) (k * 2 + 1) (.string q1) (.string q2) (.string y1) (.string y2))))
            obtain ⟨w9, hw9⟩ : ∃ w9, w9 = ((((wx1.setCell ⟨g, j * 2, none⟩ (.string q1)).setCell ⟨g, j * 2 + 1, none⟩ (.string q2)).setCell ⟨g, k * 2, none⟩ (.string y1)).setCell ⟨g, k * 2 + 1, none⟩ (.string y2)).drew := ⟨_, rfl⟩
            rw [← hw9] at HR HQ ⊢
            clear hw9 HS e1' e2' e3' e4' f1 f2 f3 f4
            have HN : Hid (InnI g a k A Z (R ++ B) (y1, y2) w w9) := Lib.hid ⟨P1, (q1, q2) :: Z2, by rw [HH.out.1]; simp, by have h3 := HH.out.2.1; have h4 := HJK.out; rw [List.length_append, List.length_singleton] at h3; omega, by
              intro z' hz'
              rcases List.mem_cons.1 hz' with rfl | hz'
              · rw [← HZ.out]; exact h0
              · exact HH.out.2.2.1 z' hz', by have := HR.out; simpa using this, HQ.out⟩
            go_wp2_with fail
            have hjk2 := HJK.out
            first
              | exact ⟨⟨k, by omega, by omega, by go_num, HN⟩, by simp [intOf]; omega⟩
              | (go_roundw
                 case rel => exact ⟨k, by omega, by omega, by go_num, HN⟩
                 case measure => simp [intOf]; omega)
          · have d0 : decide (z < 0) = false := by simpa using h0
            have HN : Hid (InsI g a (i + 1) A X B w wx1) := Lib.hid (InsI.next HF.out HH.out.1 HH.out.2.2.1 (.inr ⟨P1, (q1, q2), rfl, by rw [← HZ.out]; exact h0⟩) (by have := HA3; simpa using this) (grown_below HH.out.2.2.2.1 bx))
            clear HA3 BG HC bx1
            go_wp2_with fail
            exact ⟨⟨i + 1, by omega, by go_num, by omega, HN⟩, by simp [intOf]; omega⟩
        · have dj : decide ((a : Int) < (j : Int)) = false := by simp; omega
          have HN : Hid (InsI g a (i + 1) A X B w wr) := Lib.hid (by
            obtain ⟨Z1, Z2, hz, hjl, h2, hA, hG⟩ := HK.out
            have e : Z1 = [] := List.eq_nil_of_length_eq_zero (by omega)
            exact InsI.next HF.out hz h2 (.inl e) hA hG)
          clear HK
          go_wp2_with fail
          go_quiet (fail)
          have HN2 : Hid (InsI g a (i + 1) A X B w (wr.drewN nq)) := Lib.hid (by
            obtain ⟨P, R, Z, q1, q2, q3, q4, q5, q6, q7⟩ := HN.out
            exact ⟨P, R, Z, q1, q2, q3, q4, q5, q6, ⟨q7.os, q7.tape, q7.output, q7.size, q7.block⟩⟩)
          go_wp2_with fail
          exact ⟨⟨i + 1, by omega, by go_num, by omega, HN2⟩, by simp [intOf]; omega⟩
    · have hlt' : ¬ (i : Int) < (b : Int) := by omega
      go_wp2_with fail
      go_end0
      obtain ⟨P, R, Z, q1, q2, q3, q4, q5, q6, q7⟩ := HR.out
      have hX : X.length = P.length + R.length := by rw [q1, List.length_append]
      have hR : R = [] := by
        apply List.eq_nil_of_length_eq_zero
        have := HL.out
        rcases q5 with q5 | q5
        · omega
        · subst q5; simp at hX; omega
      subst hR
      rw [List.append_nil] at q1
      subst q1
      exact ⟨rfl, ⟨Z, q2, q3, q4, q6⟩, q7⟩
end
end Go.Proofs.YtknnjnginmkblaaDoor
