/- What the laws on maps share: clones, the known values of Set and Splice within a range. -/
import Derived.Test.YtpcjklfdgjeamaaLaw2
import Derived.Test.YtpcjklfdgjeamaaE1
namespace Go.Proofs.Ytpcjklfdgjeamaa
open Go.RowKit

/-- Values of which a range is set. -/
def setN (l : List Int) (p q : Nat) (v : Int) : List Int := spliceL l p q (List.replicate (q - p) v)
theorem setN_get (l : List Int) (p q : Nat) (v : Int) (h1 : p ≤ q) (h2 : q ≤ l.length) (i : Nat) : (setN l p q v)[i]? = if p ≤ i ∧ i < q then some v else l[i]? := by
  unfold setN spliceL
  by_cases ha : i < p
  · rw [if_neg (by omega), List.append_assoc, List.getElem?_append_left (by simp; omega), List.getElem?_take, if_pos ha]
  · by_cases hb : i < q
    · rw [if_pos ⟨by omega, hb⟩, List.getElem?_append_left (by simp; omega), List.getElem?_append_right (by simp; omega), List.getElem?_replicate, if_pos (by simp; omega)]
    · rw [if_neg (by omega), List.getElem?_append_right (by simp; omega), List.getElem?_drop]
      congr 1
      simp; omega
theorem setN_length (l : List Int) (p q : Nat) (v : Int) (h1 : p ≤ q) (h2 : q ≤ l.length) : (setN l p q v).length = l.length := by
  simp [setN, spliceL]; omega
theorem setN_comm (l : List Int) (a b c d : Nat) (v u : Int) (h1 : a ≤ b) (h2 : b ≤ c) (h3 : c ≤ d) (h4 : d ≤ l.length) : setN (setN l a b v) c d u = setN (setN l c d u) a b v := by
  apply List.ext_getElem?
  intro i
  rw [setN_get _ _ _ _ h3 (by rw [setN_length _ _ _ _ h1 (by omega)]; exact h4), setN_get _ _ _ _ h1 (by omega), setN_get _ _ _ _ h1 (by rw [setN_length _ _ _ _ h3 h4]; omega), setN_get _ _ _ _ h3 h4]
  by_cases hx : a ≤ i ∧ i < b
  · rw [if_neg (by omega), if_pos hx, if_pos hx]
  · rw [if_neg hx, if_neg hx]
theorem setN_twice (l : List Int) (a b : Nat) (v : Int) (h1 : a ≤ b) (h2 : b ≤ l.length) : setN (setN l a b v) a b v = setN l a b v := by
  apply List.ext_getElem?
  intro i
  rw [setN_get _ _ _ _ h1 (by rw [setN_length _ _ _ _ h1 h2]; exact h2), setN_get _ _ _ _ h1 h2]
  by_cases hx : a ≤ i ∧ i < b
  · rw [if_pos hx, if_pos hx]
  · rw [if_neg hx]

/-- Set within a range. -/
theorem setw_any (m : Nat) (l : List Int) (p q : Nat) (v : Int) (w : World) (h : MapIs w m l) (hl : l.length ≤ 100000) (h1 : p ≤ q) (h2 : q ≤ l.length) :
    Calls Try.prog 23 #[.pointer (some ⟨m, 0, none⟩), .int .i64 p, .int .i64 q, .int .i64 v] w fun e w' => e = .returned (.int .i64 0) ∧ w.grownBy w' (some m) ∧ MapIs w' m (setN l p q v) := by
  have hr : rightB l.length p q = true := right_iff.2 ⟨by omega, by omega, by omega⟩
  have := set_any m l p q v w h hl
  rw [rightE, if_pos hr, setV, if_pos hr, Int.toNat_natCast, Int.toNat_natCast, show ((q : Int) - (p : Int)).toNat = q - p by omega] at this
  exact this
/-- Splice with right numbers. -/
theorem splicew_any (m : Nat) (l : List Int) (a r i : Nat) (v : Int) (w : World) (h : MapIs w m l) (hl : l.length ≤ 100000) (h1 : a + r ≤ l.length) (h2 : i ≤ 100000) :
    Calls Try.prog 26 #[.pointer (some ⟨m, 0, none⟩), .int .i64 a, .int .i64 r, .int .i64 i, .int .i64 v] w fun e w' => e = .returned (.int .i64 0) ∧ w.grownBy w' (some m) ∧ MapIs w' m (spliceL l a (a + r) (List.replicate i v)) := by
  have hE : spliceE l.length a r i = 0 := by rw [spliceE, if_neg (by omega), if_neg (by omega)]
  have := splice_any m l a r i v w h hl
  rw [hE, spliceV, if_pos hE, Int.toNat_natCast, Int.toNat_natCast, show ((a : Int) + (r : Int)).toNat = a + r by omega] at this
  exact this
/-- Splice with right numbers, said of its values. -/
theorem splice0_any (m : Nat) (l L : List Int) (a r i v : Int) (w : World) (h : MapIs w m l) (hl : l.length ≤ 100000) (hE : spliceE l.length a r i = 0) (hL : spliceL l a.toNat (a + r).toNat (List.replicate i.toNat v) = L) :
    Calls Try.prog 26 #[.pointer (some ⟨m, 0, none⟩), .int .i64 a, .int .i64 r, .int .i64 i, .int .i64 v] w fun e w' => e = .returned (.int .i64 0) ∧ w.grownBy w' (some m) ∧ MapIs w' m L := by
  have := splice_any m l a r i v w h hl
  rw [hE, spliceV, if_pos hE, hL] at this
  exact this
theorem splice_back (l : List Int) (a : Nat) (v u : Int) (h : a ≤ l.length) : spliceL (spliceL l a a (List.replicate 5 v)) a (a + 5) (List.replicate 0 u) = l := by
  unfold spliceL
  have h1 : (l.take a ++ List.replicate 5 v ++ l.drop a).take a = l.take a := by
    rw [List.append_assoc, List.take_append_of_le_length (by simp; omega), List.take_of_length_le (List.length_take_le _ _)]
  have h2 : (l.take a ++ List.replicate 5 v ++ l.drop a).drop (a + 5) = l.drop a := by
    rw [List.drop_append, List.drop_of_length_le (by simp; omega), List.nil_append]
    simp
    omega
  rw [h1, h2, List.replicate_zero, List.append_nil, List.take_append_drop]
/-- Splice with wrong numbers. -/
theorem splicee_any (m : Nat) (l : List Int) (a r i v E : Int) (w : World) (h : MapIs w m l) (hl : l.length ≤ 100000) (hE : spliceE l.length a r i = E) (h0 : E ≠ 0) :
    Calls Try.prog 26 #[.pointer (some ⟨m, 0, none⟩), .int .i64 a, .int .i64 r, .int .i64 i, .int .i64 v] w fun e w' => e = .returned (.int .i64 E) ∧ w.grownBy w' (some m) ∧ MapIs w' m l := by
  have := splice_any m l a r i v w h hl
  rw [hE, spliceV, if_neg (by rw [hE]; exact h0)] at this
  exact this
theorem clonew_any (m : Nat) (l : List Int) (w : World) (h : MapIs w m l) (hl : l.length ≤ 100000) :
    Calls Try.prog 22 #[.pointer (some ⟨m, 0, none⟩)] w fun e w' => ∃ m', e = .returned (.pointer (some ⟨m', 0, none⟩)) ∧ w.heap.size ≤ m' ∧ MapIs w' m' l ∧ Below w.heap.size w w' :=
  cloneM_any m _ w h (by have := runs_length l; omega)
theorem equalw_any (m m' : Nat) (l : List Int) (w : World) (h : MapIs w m l) (h' : MapIs w m' l) :
    Calls Try.prog 24 #[.pointer (some ⟨m, 0, none⟩), .pointer (some ⟨m', 0, none⟩)] w fun e w' => e = .returned (.bool true) ∧ Below w.heap.size w w' := by
  have := equal_any m m' l l w h h'
  rwa [decide_eq_true rfl] at this
/-- What play leaves, its slice written out. -/
theorem playw_any (v : Value) (P : PlayD) (w : World) (h : IsPlay w v P) : Calls Try.prog 16 #[v] w fun e w' =>
    ∃ m A c l, e = .returned (.tuple #[.pointer (some ⟨m, 0, none⟩), .slice A l.length c, .bool true]) ∧ w.heap.size ≤ m ∧ MapIs w' m l ∧ IntsV w' w'.heap.size (.slice A l.length c) l ∧ Nice (.slice A l.length c) ∧ l.length ≤ 1000 ∧ Below w.heap.size w w' :=
  (playv_any v P w h).mono fun e w' ⟨m, lv, l, he, h1, h2, h3, h4, h5, h6⟩ => by
    obtain ⟨A, c, rfl, _⟩ := id h3
    exact ⟨m, A, c, l, he, h1, h2, h3, h4, h5, h6⟩
end Go.Proofs.Ytpcjklfdgjeamaa
