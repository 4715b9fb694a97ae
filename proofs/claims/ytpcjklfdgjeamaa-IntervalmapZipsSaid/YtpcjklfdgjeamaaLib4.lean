/- Words for memory, more: a store into an own slice; a part of a slice. -/
import Derived.Test.YtpcjklfdgjeamaaLib3
namespace Go.Proofs.Ytpcjklfdgjeamaa
open Go.RowKit

section
variable {α : Type} {enc : α → List Value} {sz : Nat}
theorem flatMap_set (he : ∀ x, (enc x).length = sz) : ∀ (l : List α) (i j : Nat) (u : Value) (x' : α) (hi : i < l.length), j < sz → enc x' = (enc l[i]).set j u → (l.set i x').flatMap enc = (l.flatMap enc).set (i * sz + j) u
  | [], _, _, _, _, hi, _, _ => by simp at hi
  | y :: r, 0, j, u, x', _, hj, hx => by
    simp only [List.getElem_cons_zero] at hx
    rw [List.set_cons_zero, List.flatMap_cons, List.flatMap_cons, hx, Nat.zero_mul, Nat.zero_add, List.set_append_left _ _ (by rw [he]; exact hj)]
  | y :: r, i + 1, j, u, x', hi, hj, hx => by
    simp only [List.getElem_cons_succ] at hx
    rw [List.set_cons_succ, List.flatMap_cons, List.flatMap_cons, flatMap_set he r i j u x' (by simpa using hi) hj hx, List.set_append_right _ _ (by rw [he, Nat.succ_mul]; omega), he]
    congr 1
    congr 1
    rw [Nat.succ_mul]; omega

/-- An own slice that is not nil: its block. -/
theorem Own.blk {E : TypeId} {w : World} {base g n cap : Nat} {l : List α} (h : Own enc sz E w base (.slice (some ⟨g, 0, none⟩) n cap) l) :
    ∃ cur, w.heap[g]? = some (.cells cur E (0, 0)) ∧ base ≤ g ∧ g < w.heap.size := by
  unfold Own at h
  rcases h.2 with ⟨h0, _⟩ | ⟨q, c, cur, hv, hq, hh, _⟩
  · cases h0
  · injection hv with hv _ _
    injection hv with hv
    injection hv with hv
    subst hv
    exact ⟨cur, hh, hq, lt_of_block hh⟩
theorem Own.some {E : TypeId} {w : World} {base : Nat} {v : Value} {l : List α} (h : Own enc sz E w base v l) (hl : 0 < l.length) : ∃ g cap, v = .slice (some ⟨g, 0, none⟩) l.length cap ∧ l.length ≤ cap ∧ cap ≤ maxLen := by
  unfold Own at h
  rcases h.2 with ⟨_, h0⟩ | ⟨q, c, cur, hv, hq, hh, hc, hm, _⟩
  · omega
  · exact ⟨q, c, hv, hc, hm⟩
/-- A store into an own slice. -/
theorem Own.set {E : TypeId} {w : World} {base g n cap : Nat} {l : List α} (he : ∀ x, (enc x).length = sz) (h : Own enc sz E w base (.slice (Option.some ⟨g, 0, none⟩) n cap) l) (i j : Nat) (u : Value) (x' : α) (hi : i < l.length) (hj : j < sz)
    (hx : enc x' = (enc l[i]).set j u) : Own enc sz E (w.setCell ⟨g, i * sz + j, none⟩ u) base (.slice (Option.some ⟨g, 0, none⟩) n cap) (l.set i x') := by
  unfold Own at h ⊢
  have hl : (l.set i x').length = l.length := List.length_set
  rw [hl, flatMap_set he l i j u x' hi hj hx]
  refine ⟨by rw [List.length_set]; exact h.1, ?_⟩
  rcases h.2 with ⟨h0, _⟩ | ⟨q, c, cur, hv, hq, hh, hc, hm, hs, ht⟩
  · cases h0
  · injection hv with hv h2 h3
    injection hv with hv
    injection hv with hv
    subst hv h2 h3
    refine .inr ⟨g, cap, cur.setIfInBounds (i * sz + j) u, rfl, hq, ?_, hc, hm, by simpa using hs, ?_⟩
    · simp [World.setCell, Array.getElem?_modify, hh]
    · rw [Array.toList_setIfInBounds, List.take_set, ht]
theorem grown_set {w : World} {g : Nat} (k : Nat) (u : Value) : w.grownBy (w.setCell ⟨g, k, none⟩ u) (Option.some g) :=
  ⟨rfl, rfl, rfl, by simp, fun q _ hq => Below.heap_setCell w ⟨g, k, none⟩ u q (fun e => hq (by rw [e]))⟩
theorem grown_trans {a b c : World} {r : Option Nat} (h : a.grownBy b r) (k : b.grownBy c r) : a.grownBy c r :=
  ⟨k.os.trans h.os, k.tape.trans h.tape, k.output.trans h.output, Nat.le_trans h.size k.size, fun q hq hr => (k.block q (Nat.lt_of_lt_of_le hq h.size) hr).trans (h.block q hq hr)⟩
theorem grown_below {a b : World} (h : Below a.heap.size a b) (r : Option Nat) : a.grownBy b r := ⟨h.os, h.tape, h.output, h.size, fun q hq _ => h.block q hq⟩
theorem below_grown_new {a b c : World} {g : Nat} (h : Below a.heap.size a b) (k : b.grownBy c (Option.some g)) (hg : a.heap.size ≤ g) : Below a.heap.size a c :=
  h.grown k h.size (fun q hq => by injection hq with hq; omega)

/-- A part of a slice. -/
theorem Sl.part {w : World} {B b o n c lo hi : Nat} {l : List α} (h : Sl enc sz w B (.slice (Option.some ⟨b, o, none⟩) n c) l) (h1 : lo < hi) (h2 : hi ≤ n) : Sl enc sz w B (.slice (Option.some ⟨b, o + lo * sz, none⟩) (hi - lo) (c - lo)) ((l.drop lo).take (hi - lo)) := by
  obtain ⟨A, c', hv, h3, h4, h5⟩ := h
  injection hv with e1 e2 e3
  subst e1 e2 e3
  have hlen : ((l.drop lo).take (hi - lo)).length = hi - lo := by rw [List.length_take, List.length_drop]; omega
  refine ⟨_, c - lo, by rw [hlen], by rw [hlen]; omega, by omega, fun _ => ?_⟩
  obtain ⟨b', o', e, hb, hc⟩ := h5 (by omega)
  injection e with e
  injection e with e1 e2
  subst e1 e2
  refine ⟨b, o + lo * sz, rfl, hb, fun i x hx j u hu => ?_⟩
  rw [List.getElem?_take] at hx
  split at hx
  · rw [List.getElem?_drop] at hx
    have := hc _ x hx j u hu
    rw [← this]
    congr 2
    rw [Nat.add_mul]; omega
  · cases hx
end
end Go.Proofs.Ytpcjklfdgjeamaa
