/- Words for memory, shared by all walks: a slice that reads as a list of elements, a slice of the call's own, endings. -/
import Derived.WalkKit
import Derived.WalkSpells
import Derived.WalkLawsBesides
import Derived.Lib.Hide
import Derived.Deep.Draws
import Derived.Laws.OwnMore
namespace Go.Proofs.YtmhhcfceikcfbaaGreat
open Go.RowKit
theorem ret_bool {a b : Bool} (h : a = b) : Ending.returned (.bool a) = .returned (.bool b) := by rw [h]
theorem addr_add (b o n : Nat) : (⟨b, o, none⟩ : Addr).add n = ⟨b, o + n, none⟩ := by unfold Addr.add; split <;> simp_all
/-- A slice value reads as a list; each element has the cells that 'enc' says. -/
def Sl {α : Type} (enc : α → List Value) (sz : Nat) (w : World) (B : Nat) (v : Value) (l : List α) : Prop :=
 ∃ A c, v = .slice A l.length c ∧ l.length ≤ c ∧ c ≤ maxLen ∧ (0 < l.length → ∃ b o, A = some ⟨b, o, none⟩ ∧ b < B ∧
  ∀ i x, l[i]? = some x → ∀ j u, (enc x)[j]? = some u → w.cell? ⟨b, o + i * sz + j, none⟩ = some u)
/-- A slice of the call's own, which may be appended to. -/
def Own {α : Type} (enc : α → List Value) (sz : Nat) (E : TypeId) (w : World) (base : Nat) (v : Value) (l : List α) : Prop :=
 w.ownsRow base E sz v l.length (l.flatMap enc)
section
variable {α : Type} {enc : α → List Value} {sz : Nat} {w w' : World} {B B' : Nat} {v : Value} {l : List α} {E : TypeId} {base : Nat}
theorem Sl.keep (h : Sl enc sz w B v l) (hk : ∀ p : Addr, p.block < B → w'.cell? p = w.cell? p) : Sl enc sz w' B v l := by
 obtain ⟨A, c, rfl, h1, h2, h3⟩ := h
 refine ⟨A, c, rfl, h1, h2, fun hn => ?_⟩
 obtain ⟨b, o, rfl, hb, hc⟩ := h3 hn
 exact ⟨b, o, rfl, hb, fun i x hx j u hu => (hk _ hb).trans (hc i x hx j u hu)⟩
theorem Sl.more (h : Sl enc sz w B v l) (hB : B ≤ B') : Sl enc sz w B' v l := by
 obtain ⟨A, c, rfl, h1, h2, h3⟩ := h
 refine ⟨A, c, rfl, h1, h2, fun hn => ?_⟩
 obtain ⟨b, o, rfl, hb, hc⟩ := h3 hn
 exact ⟨b, o, rfl, by omega, hc⟩
theorem Sl.below (h : Sl enc sz w B v l) (hb : Below B w w') : Sl enc sz w' B v l := h.keep fun _ hp => hb.cell hp
/-- Carried over a call: 'Below' at the heap's size of the world before. -/
theorem Sl.over (h : Sl enc sz w w.heap.size v l) (hb : Below w.heap.size w w') : Sl enc sz w' w'.heap.size v l := (h.below hb).more hb.size
theorem Sl.nil (w : World) (B : Nat) : Sl enc sz w B (.slice none 0 0) ([] : List α) := ⟨none, 0, rfl, by simp, by simp [maxLen], fun h => by simp at h⟩
theorem Sl.take (h : Sl enc sz w B v l) (n : Nat) : ∀ A m c, v = .slice A m c → Sl enc sz w B (.slice A (min m n) c) (l.take n) := by
 obtain ⟨A, c, rfl, h1, h2, h3⟩ := h
 rintro A' m' c' e
 injection e with e1 e2 e3
 subst e1 e2 e3
 refine ⟨A, c, by rw [List.length_take, Nat.min_comm], by rw [List.length_take]; omega, h2, fun hn => ?_⟩
 rw [List.length_take] at hn
 obtain ⟨b, o, rfl, hb, hc⟩ := h3 (by omega)
 refine ⟨b, o, rfl, hb, fun i x hx j u hu => hc i x ?_ j u hu⟩
 rw [List.getElem?_take] at hx
 split at hx
 ·exact hx
 ·cases hx
theorem flatMap_get (he : ∀ x, (enc x).length = sz) : ∀ (l : List α) (i : Nat) (x : α), l[i]? = some x → ∀ j u, (enc x)[j]? = some u → (l.flatMap enc)[i * sz + j]? = some u
 | [], i, x, h, _, _, _ => by simp at h
 | y :: r, 0, x, h, j, u, hu => by
  simp only [List.getElem?_cons_zero, Option.some.injEq] at h
  subst h
  rw [List.flatMap_cons, Nat.zero_mul, Nat.zero_add, List.getElem?_append_left]
  ·exact hu
  ·exact (List.getElem?_eq_some_iff.1 hu).1
 | y :: r, i + 1, x, h, j, u, hu => by
  rw [List.getElem?_cons_succ] at h
  rw [List.flatMap_cons, List.getElem?_append_right (by rw [he, Nat.succ_mul]; omega), he]
  have := flatMap_get he r i x h j u hu
  rw [← this]
  congr 1
  rw [Nat.succ_mul]; omega
theorem flatMap_length (he : ∀ x, (enc x).length = sz) (l : List α) : (l.flatMap enc).length = l.length * sz := by
 induction l with
 | nil => simp
 | cons y r ih => rw [List.flatMap_cons, List.length_append, he, ih, List.length_cons, Nat.succ_mul]; omega
theorem Own.sl (h : Own enc sz E w base v l) (he : ∀ x, (enc x).length = sz) : Sl enc sz w w.heap.size v l := by
 unfold Own at h
 rcases h.2 with ⟨rfl, hn⟩ | ⟨g, cap, cur, rfl, hb, hh, hc1, hc2, hc3, hc4⟩
 ·have : l = [] := List.eq_nil_of_length_eq_zero hn
  subst this
  exact Sl.nil _ _
 ·refine ⟨_, _, rfl, hc1, hc2, fun hn => ⟨g, 0, rfl, (Array.getElem?_eq_some_iff.1 hh).1, fun i x hx j u hu => ?_⟩⟩
  have := h.cells (g := g) rfl (i * sz + j) u (flatMap_get he l i x hx j u hu)
  rw [addr_add] at this
  rw [← this]
  congr 2
  omega
theorem Own.nil (w : World) (base : Nat) : Own enc sz E w base (.slice none 0 0) ([] : List α) := by
 have := World.ownsRow_nil w base E sz
 exact this
theorem Own.kept {row : Option Nat} (h : Own enc sz E w base v l) (hg : w.grownBy w' row) (hne : v.ownBlock = none ∨ v.ownBlock ≠ row) : Own enc sz E w' base v l :=
 World.ownsRow.kept h hg hne
theorem Own.alloc (h : Own enc sz E w base v l) (o : Obj) : Own enc sz E (w.alloc o) base v l := World.ownsRow.alloc h o
theorem Own.drew (h : Own enc sz E w base v l) : Own enc sz E w.drew base v l := h
theorem Own.drewN (h : Own enc sz E w base v l) (n : Nat) : Own enc sz E (w.drewN n) base v l := h
theorem Own.lower (h : Own enc sz E w base v l) {base' : Nat} (hb : base' ≤ base) : Own enc sz E w base' v l := by
 refine ⟨h.1, ?_⟩
 rcases h.2 with hn | ⟨g, cap, cur, hv, hg, r⟩
 ·exact .inl hn
 ·exact .inr ⟨g, cap, cur, hv, by omega, r⟩
/-- Over a call that leaves all that was there. -/
theorem Own.over (h : Own enc sz E w base v l) (hb : Below w.heap.size w w') : Own enc sz E w' base v l :=
 h.kept (row := none) ⟨hb.os, hb.tape, hb.output, hb.size, fun k hk _ => hb.block k hk⟩ (by cases hv : v.ownBlock <;> simp)
theorem Own.shape (h : Own enc sz E w base v l) : ∃ A c, v = .slice A l.length c ∧ l.length ≤ c ∧ c ≤ maxLen := by
 unfold Own at h
 rcases h.2 with ⟨rfl, hn⟩ | ⟨g, cap, cur, rfl, hb, hh, hc1, hc2, hc3, hc4⟩
 ·exact ⟨none, 0, by rw [hn], by omega, by simp [maxLen]⟩
 ·exact ⟨_, _, rfl, hc1, hc2⟩
end
/-- The one cell, or the cells, of a block that was just made. -/
theorem cells_new (w : World) (cs : List Value) (E : TypeId) : ∀ j u, cs[j]? = some u → (w.alloc (.cells cs.toArray E)).cell? ⟨w.heap.size, j, none⟩ = some u := by
 intro j u hj
 rw [World.cell?_alloc_new]
 simpa using hj
theorem below_drewN {B : Nat} {a w : World} (h : Below B a w) (n : Nat) : Below B a (w.drewN n) := ⟨h.os, h.tape, h.output, h.size, h.block⟩
theorem blk_cell {w : World} {g : Nat} {t : TypeId} {cs : Array Value} (h : w.heap[g]? = some (.cells cs t (0, 0))) (i : Nat) : w.cell? ⟨g, i, none⟩ = cs[i]? := cell_of_row w g i cs t (0, 0) h
theorem blk_free {w : World} {g : Nat} {t : TypeId} {cs : Array Value} (h : w.heap[g]? = some (.cells cs t (0, 0))) (i : Nat) : w.frozen? ⟨g, i, none⟩ = false := frozen_of_row w g i cs t h
theorem heap_alloc_new' (w : World) (o : Obj) {n : Nat} (h : n = w.heap.size) : (w.alloc o).heap[n]? = some o := by subst h; exact heap_alloc_new w o
end Go.Proofs.YtmhhcfceikcfbaaGreat
namespace Go.Proofs.YtmhhcfceikcfbaaGreat
open Go.RowKit
theorem grown_refl (w : World) (row : Option Nat) : w.grownBy w row := ⟨rfl, rfl, rfl, Nat.le_refl _, fun _ _ _ => rfl⟩
end Go.Proofs.YtmhhcfceikcfbaaGreat
