/- Plain laws: readings one behind the other; a reader among new blocks. -/
import Derived.Test.YtmhhcfceikcfbaaGreatR2
namespace Go.Proofs.YtmhhcfceikcfbaaGreat
open Go.RowKit

theorem Res.seq {α β : Type} {p : Rd α} {q : Rd β} {s : ByteArray} {k k1 k2 : Nat} {e e1 e2 : Int} {x : α} {y : β} (h : Res p s k e x k1 e1) (g : Res q s k1 e1 y k2 e2) : Res (seqR p q) s k e (x, y) k2 e2 := by
  refine ⟨g.1, fun he => ?_, fun he => ?_⟩
  · have h1 := h.2.1 he
    rw [← h1] at he ⊢
    exact g.2.1 he
  · have h1 := h.2.2 he
    unfold seqR bnd
    cases hp : p ((bytesN s).drop k) with
    | err E =>
      rw [hp] at h1
      obtain ⟨h2, h3⟩ := h1
      rw [← h2] at h3
      have h4 := g.2.1 h3
      exact ⟨by rw [h4, h2], by rw [← h2]; exact h3⟩
    | ok z n =>
      rw [hp] at h1
      obtain ⟨rfl, h2, h3⟩ := h1
      have g1 := g.2.2 h3
      simp only [List.drop_drop, ← h2]
      cases hq : q ((bytesN s).drop k1) with
      | err E => rw [hq] at g1; exact g1
      | ok y2 m =>
        rw [hq] at g1
        obtain ⟨rfl, g2, g3⟩ := g1
        exact ⟨rfl, by rw [g2, h2]; simp; omega, g3⟩
theorem Rdr.alloc {ty : TypeId} {r k : Nat} {s : ByteArray} {e : Int} {w : World} (h : Rdr ty r s k e w) (o : Obj) : Rdr ty r s k e (w.alloc o) := by
  unfold Rdr at h ⊢
  have hl : r < w.heap.size := by
    rcases Nat.lt_or_ge r w.heap.size with q | q
    · exact q
    · rw [Array.getElem?_eq_none q] at h; exact absurd h (by simp)
  rw [← h]
  exact Array.getElem?_push_lt hl ▸ (Array.getElem?_eq_getElem hl).symm ▸ rfl
theorem grown_cell {a b : World} {r : Nat} (h : a.grownBy b (some r)) {x : Addr} {v : Value} (hx : a.cell? x = some v) (hn : x.block ≠ r) : b.cell? x = some v := by
  have hl := World.block_lt_of_cell? _ _ hx
  exact (World.cell?_of_block (h.block x.block hl (fun e => hn (by injection e)))).trans hx
theorem lt_of_blk {a : World} {g : Nat} {o : Obj} (hx : a.heap[g]? = some o) : g < a.heap.size := by
  rcases Nat.lt_or_ge g a.heap.size with q | q
  · exact q
  · rw [Array.getElem?_eq_none q] at hx; exact absurd hx (by simp)
theorem blk_over {a b : World} {r g : Nat} {o : Obj} (h : a.grownBy b (some r)) (hx : a.heap[g]? = some o) (hn : g ≠ r) : b.heap[g]? = some o :=
  (h.block g (lt_of_blk hx) (fun e => hn (by injection e))).trans hx
theorem grown_new {a b : World} {r g : Nat} (h : a.grownBy b (some r)) (hg : a.heap.size ≤ g) (j : Nat) (u : Value) : a.grownBy (b.setCell ⟨g, j, none⟩ u) (some r) :=
  ⟨h.os, h.tape, h.output, by simpa using h.size, fun k hk hr => (heap_setCell_other b ⟨g, j, none⟩ k u (Nat.ne_of_lt (Nat.lt_of_lt_of_le hk hg))).trans (h.block k hk hr)⟩
theorem grown_alloc {a b : World} {r : Nat} (h : a.grownBy b (some r)) (o : Obj) : a.grownBy (b.alloc o) (some r) :=
  ⟨h.os, h.tape, h.output, by have := h.size; simp; omega, fun k hk hr => (Below.heap_alloc b o k (Nat.lt_of_lt_of_le hk h.size)).trans (h.block k hk hr)⟩
theorem Rdr.other {ty : TypeId} {r k g : Nat} {s : ByteArray} {e : Int} {w : World} (h : Rdr ty r s k e w) (hg : g ≠ r) (j : Nat) (u : Value) : Rdr ty r s k e (w.setCell ⟨g, j, none⟩ u) :=
  (heap_setCell_other w ⟨g, j, none⟩ r u (fun e => hg e.symm)).trans h
/-- A list read on by one element. -/
theorem many_snoc {α : Type} (p : Rd α) (n : Nat) (l : List Nat) : manyR p (n + 1) l = match manyR p n l with
    | .ok r k => (match p (l.drop k) with | .ok x m => .ok (r ++ [x]) (k + m) | .err e => .err e)
    | .err e => .err e := by
  induction n generalizing l with
  | zero =>
    rw [many_cons]
    show _ = (match p (l.drop 0) with | Rs.ok x m => Rs.ok ([] ++ [x]) (0 + m) | Rs.err e => Rs.err e)
    rw [List.drop_zero]
    cases p l with
    | ok x m => show Rs.ok [x] (m + 0) = Rs.ok [x] (0 + m); rw [Nat.add_comm]
    | err e => rfl
  | succ n ih =>
    rw [many_cons, many_cons]
    cases hp : p l with
    | err e => rfl
    | ok x k =>
      simp only
      rw [ih]
      cases hm : manyR p n (l.drop k) with
      | err e => rfl
      | ok r k2 =>
        simp only
        rw [List.drop_drop]
        cases p (l.drop (k + k2)) with
        | err e => rfl
        | ok y k3 => simp [Nat.add_assoc]
theorem many_err {α : Type} {p : Rd α} {i n : Nat} {l : List Nat} {E : Int} (h : manyR p i l = .err E) (hn : i ≤ n) : manyR p n l = .err E := by
  induction n with
  | zero => rw [show i = 0 by omega] at h; exact h
  | succ n ih =>
    rcases Nat.lt_or_ge n i with q | q
    · rw [show i = n + 1 by omega] at h; exact h
    · rw [many_snoc, ih q]
theorem Res.snoc {α : Type} {p : Rd α} {s : ByteArray} {k k1 k2 i : Nat} {e e2 : Int} {l : List α} {x : α} (h : Res (manyR p i) s k e l k1 0) (g : Res p s k1 0 x k2 e2) : Res (manyR p (i + 1)) s k e (l ++ [x]) k2 e2 := by
  obtain ⟨rfl, n, hp, hn⟩ := h.ok0
  refine ⟨g.1, fun q => absurd rfl q, fun _ => ?_⟩
  have g2 := g.2.2 rfl
  rw [many_snoc, hp]
  simp only
  rw [List.drop_drop, ← hn]
  cases hq : p ((bytesN s).drop k1) with
  | err E => rw [hq] at g2; exact g2
  | ok y m =>
    rw [hq] at g2
    obtain ⟨rfl, g3, g4⟩ := g2
    exact ⟨rfl, by omega, g4⟩
theorem Res.manyErr {α : Type} {p : Rd α} {s : ByteArray} {k k1 i n : Nat} {e e2 : Int} {l l' : List α} (h : Res (manyR p i) s k e l k1 e2) (he : e2 ≠ 0) (hn : i ≤ n) : Res (manyR p n) s k e l' k1 e2 := by
  refine ⟨h.1, h.2.1, fun h0 => ?_⟩
  have h2 := h.2.2 h0
  cases hq : manyR p i ((bytesN s).drop k) with
  | ok y m => rw [hq] at h2; exact absurd h2.2.2 he
  | err E => rw [hq] at h2; rw [many_err hq hn]; exact h2
theorem Res.many0 {α : Type} (p : Rd α) (s : ByteArray) (k : Nat) (e : Int) (hk : k ≤ s.size) : Res (manyR p 0) s k e [] k e :=
  ⟨hk, fun _ => rfl, fun h => ⟨rfl, rfl, h⟩⟩
/-- A size and its elements are a list. -/
theorem Res.list {α : Type} {p : Rd α} {s : ByteArray} {k k1 k2 n : Nat} {e e1 e2 : Int} {l : List α} (h : Res rdS s k e n k1 e1) (g : Res (manyR p n) s k1 e1 l k2 e2) : Res (listR p) s k e l k2 e2 := by
  refine ⟨g.1, fun he => ?_, fun he => ?_⟩
  · have h1 := h.2.1 he
    rw [← h1] at he ⊢
    exact g.2.1 he
  · have h1 := h.2.2 he
    unfold listR bnd
    cases hp : rdS ((bytesN s).drop k) with
    | err E =>
      rw [hp] at h1
      obtain ⟨h2, h3⟩ := h1
      rw [← h2] at h3
      have h4 := g.2.1 h3
      exact ⟨by rw [h4, h2], by rw [← h2]; exact h3⟩
    | ok z m =>
      rw [hp] at h1
      obtain ⟨rfl, h2, h3⟩ := h1
      have g1 := g.2.2 h3
      simp only [List.drop_drop, ← h2]
      cases hq : manyR p n ((bytesN s).drop k1) with
      | err E => rw [hq] at g1; exact g1
      | ok y2 j =>
        rw [hq] at g1
        obtain ⟨rfl, g2, g3⟩ := g1
        exact ⟨rfl, by omega, g3⟩
end Go.Proofs.YtmhhcfceikcfbaaGreat
