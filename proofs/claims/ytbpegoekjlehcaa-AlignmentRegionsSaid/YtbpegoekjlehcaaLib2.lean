/- Words for memory, more: appending a slice that reads as a list; Grow of nil. -/
import Derived.Test.YtbpegoekjlehcaaLib
import Derived.Lib.AppendZeros
namespace Go.Proofs.Ytbpegoekjlehcaa
open Go.RowKit

section
variable {α : Type} {enc : α → List Value} {sz : Nat}
theorem flatMap_inv (he : ∀ x, (enc x).length = sz) (hsz : 0 < sz) : ∀ (l : List α) (j : Nat) (u : Value), (l.flatMap enc)[j]? = some u → ∃ i x r, j = i * sz + r ∧ l[i]? = some x ∧ (enc x)[r]? = some u
  | [], j, u, h => by simp at h
  | y :: r, j, u, h => by
    rw [List.flatMap_cons] at h
    by_cases hj : j < sz
    · rw [List.getElem?_append_left (by rw [he]; exact hj)] at h
      exact ⟨0, y, j, by omega, rfl, h⟩
    · rw [List.getElem?_append_right (by rw [he]; omega), he] at h
      obtain ⟨i, x, q, h1, h2, h3⟩ := flatMap_inv he hsz r _ u h
      exact ⟨i + 1, x, q, by rw [Nat.succ_mul]; omega, h2, h3⟩

/-- 'append(out, xs...)': out of the call's own, xs read as a list, nil or not. -/
theorem run_append_sl {P : Program} (w : World) (t ty : TypeId) (base : Nat) (E : TypeId) (i : TypeInfo) (z : Value) (bytes : Nat) (ht : P.underlying t = some (.slice E)) (hi : P.info? E = some i) (hz : i.zero = some z)
    (hsize : i.size = sz) (hby : i.bytes = bytes) (hzs : z.cells.size = sz) (hsz : 0 < sz) (he : ∀ x, (enc x).length = sz) (h1 : ∀ x, ∀ u ∈ enc x, u.oneCell' = true)
    (v : Value) (l : List α) (hown : Own enc sz E w base v l) (B : Nat) (x : Value) (l2 : List α) (hx : Sl enc sz w B x l2)
    (hbytes : (l.length + l2.length) * bytes ≤ 140737488355328) (hlen : l.length + l2.length ≤ 140737488355328) (hbase : base ≤ w.heap.size) :
    ∃ v' w', (Builtin.append_ #[t, t] ty #[v, x]).run P w = .ok v' w' ∧ Own enc sz E w' base v' (l ++ l2) ∧ w.grownBy w' v.ownBlock := by
  obtain ⟨A, c, rfl, hc1, hc2, hA⟩ := hx
  cases A with
  | none =>
    have hm : l2.length = 0 := by
      rcases Nat.eq_zero_or_pos l2.length with h0 | h0
      · exact h0
      · obtain ⟨b, o, h, _⟩ := hA h0
        cases h
    have hl2 : l2 = [] := List.eq_nil_of_length_eq_zero hm
    subst hl2
    refine ⟨v, w, ?_, by simpa using hown, ⟨rfl, rfl, rfl, Nat.le_refl _, fun _ _ _ => rfl⟩⟩
    have hown' := hown
    unfold Own at hown'
    rcases hown'.2 with ⟨rfl, _⟩ | ⟨g, cap, cur, rfl, _, _, hnc, _⟩
    · simp [Builtin.append_, run_underlying ht, sizeOf, typeInfo, hi, Builtin.lenOf, Builtin.firstCells]
    · simp [Builtin.append_, run_underlying ht, sizeOf, typeInfo, hi, Builtin.lenOf, Builtin.firstCells, hnc, storeCells]
  | some ad =>
    obtain ⟨v', w', hr, h2, h3, _⟩ := run_append_own (P := P) w base t ty E i z sz bytes ht hi hz hsize hby hzs hsz v l.length (l.flatMap enc) hown ad l2.length c (l2.flatMap enc) (flatMap_length he l2)
      (by
        intro j u hu
        obtain ⟨i, y, r, rfl, hy, hr⟩ := flatMap_inv he hsz l2 j u hu
        obtain ⟨b, o, h, _, hcell⟩ := hA (by have := (List.getElem?_eq_some_iff.1 hy).1; omega)
        injection h with h
        subst h
        rw [addr_add, ← Nat.add_assoc]
        exact hcell i y hy r u hr)
      (by intro u hu; obtain ⟨y, _, hy⟩ := List.mem_flatMap.1 hu; exact h1 y u hy) (by simp only [maxLen]; omega) hbytes hbase
    refine ⟨v', w', hr, ?_, h3⟩
    unfold Own
    rw [List.length_append, List.flatMap_append]
    exact h2

theorem wpList_append_sl {P : Program} (w : World) {ops : Array Oper} {rest : List Oper} {o : Oper} {a : Act} {Q : Exit → Act → World → Prop} (hgd : o.guard = none) (s x : Operand) (t : TypeId)
    (ho : o.op = .call { callee := .builtin .append, args := #[s, x], argTypes := #[t, t] })
    (base : Nat) (E : TypeId) (i : TypeInfo) (z : Value) (bytes : Nat) (ht : P.underlying t = some (.slice E)) (hi : P.info? E = some i) (hz : i.zero = some z)
    (hsize : i.size = sz) (hby : i.bytes = bytes) (hzs : z.cells.size = sz) (hsz : 0 < sz) (he : ∀ x, (enc x).length = sz) (h1 : ∀ x, ∀ u ∈ enc x, u.oneCell' = true)
    (v : Value) (l : List α) (hs : a.eval s = v) (hown : Own enc sz E w base v l) (B : Nat) (vx : Value) (l2 : List α) (hvx : a.eval x = vx) (hx : Sl enc sz w B vx l2)
    (hbytes : (l.length + l2.length) * bytes ≤ 140737488355328) (hlen : l.length + l2.length ≤ 140737488355328) (hbase : base ≤ w.heap.size)
    (h : ∀ v' w', Own enc sz E w' base v' (l ++ l2) → w.grownBy w' v.ownBlock → wpList P ops Q rest (a.put o.dst v') w') : wpList P ops Q (o :: rest) a w := by
  obtain ⟨v', w', hr, h2, h3⟩ := run_append_sl (P := P) w t o.type base E i z bytes ht hi hz hsize hby hzs hsz he h1 v l hown B vx l2 hx hbytes hlen hbase
  exact Lib.wpList_append_run w hgd s x t t ho v vx hs hvx v' w' hr (h v' w' h2 h3)

/-- What Grow makes of nil. -/
theorem own_grown {E : TypeId} (w : World) (base n cap : Nat) (z : Value) (hz : z.cells.size = sz) (hb : base ≤ w.heap.size) (hn : n ≤ cap) (hc : cap ≤ maxLen) :
    Own enc sz E (w.drew.alloc (.cells (Builtin.zeroCells z.cells n ++ Builtin.zeroCells z.cells (cap - n)) E)) base (.slice (some ⟨w.heap.size, 0, none⟩) 0 cap) ([] : List α) := by
  have := World.ownsRow_made (base := base) (e := E) (size := sz) w.drew (Builtin.zeroCells z.cells n ++ Builtin.zeroCells z.cells (cap - n)) cap hb hc (by
    rw [Array.size_append, size_zeroCells, size_zeroCells, hz, ← Nat.add_mul]; congr 1; omega)
  exact this
end
end Go.Proofs.Ytbpegoekjlehcaa
