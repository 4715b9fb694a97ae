/- Words for memory: a slice appended to a slice of the call's own. -/
import Derived.Test.YtmhhcfceikcfbaaGreatLib
namespace Go.Proofs.YtmhhcfceikcfbaaGreat
open Go.RowKit

theorem run_append_no {P : Program} (w : World) (base : Nat) (t ty e : TypeId) (i : TypeInfo) (size : Nat) (ht : P.underlying t = some (.slice e)) (hi : P.info? e = some i)
    (v : Value) (n c : Nat) (xs : List Value) (hown : w.ownsRow base e size v n xs) :
    (Builtin.append_ #[t, t] ty #[v, .slice none 0 c]).run P w = .ok v w := by
  rcases hown.2 with ⟨rfl, rfl⟩ | ⟨g, cap, cur, rfl, _, _, hnc, _⟩
  · simp [Builtin.append_, run_underlying ht, sizeOf, typeInfo, hi, Builtin.lenOf, Builtin.firstCells]
  · simp [Builtin.append_, run_underlying ht, sizeOf, typeInfo, hi, Builtin.lenOf, Builtin.firstCells, hnc, storeCells]

theorem grown_refl (w : World) (row : Option Nat) : w.grownBy w row := ⟨rfl, rfl, rfl, Nat.le_refl _, fun _ _ _ => rfl⟩

/-- 'out = append(out, l...)', out a slice of the call's own. -/
theorem wpList_app {α : Type} {enc : α → List Value} {P : Program} (w : World) {ops : Array Oper} {rest : List Oper} {o : Oper} {a : Act} {Q : Exit → Act → World → Prop}
    (hgd : o.guard = none) (s x : Operand) (t : TypeId)
    (ho : o.op = .call { callee := .builtin .append, args := #[s, x], argTypes := #[t, t] })
    (base : Nat) (E : TypeId) (i : TypeInfo) (z : Value) (sz bytes : Nat) (ht : P.underlying t = some (.slice E)) (hi : P.info? E = some i) (hz : i.zero = some z)
    (hsize : i.size = sz) (hby : i.bytes = bytes) (hzs : z.cells.size = sz) (hsz : 0 < sz) (he : ∀ x, (enc x).length = sz) (h1 : ∀ x, ∀ u ∈ enc x, u.oneCell' = true)
    (v : Value) (l : List α) (hs : a.eval s = v) (hown : Own enc sz E w base v l)
    (B : Nat) (vx : Value) (m : List α) (hx : a.eval x = vx) (hsl : Sl enc sz w B vx m)
    (hbytes : (l.length + m.length) * bytes ≤ 140737488355328) (hlen : l.length + m.length ≤ 140737488355328) (hbase : base ≤ w.heap.size)
    (h : ∀ v' w', Own enc sz E w' base v' (l ++ m) → w.grownBy w' v.ownBlock → wpList P ops Q rest (a.put o.dst v') w') : wpList P ops Q (o :: rest) a w := by
  obtain ⟨A, c, rfl, hc1, hc2, hc3⟩ := hsl
  cases A with
  | none =>
    have hm : m = [] := by
      cases m with
      | nil => rfl
      | cons y r =>
        obtain ⟨b, o, hA, _⟩ := hc3 (by simp)
        cases hA
    subst hm
    refine wpList_plain hgd fun _ hK => ?_
    have hr := run_append_no (P := P) w base t o.type E i sz ht hi v l.length c (l.flatMap enc) hown
    unfold Oper.wp execOp
    simp only [ho, resolve, invoke, builtin, Sem.run_bind, Sem.run_pure, Result.andThen_ok, List.map_toArray, List.map_cons, List.map_nil, hs, hx, List.length_nil, hr]
    exact hK _ _ (h v w (by rw [List.append_nil]; exact hown) (grown_refl _ _))
  | some ad =>
    refine wpList_append_own _ hgd s x t ho base E i z sz bytes ht hi hz hsize hby hzs hsz v l.length (l.flatMap enc) hs hown ad m.length c (m.flatMap enc) hx (flatMap_length he m) ?_ ?_ ?_ hbytes hbase ?_
    · intro j u hu
      have hj : j < m.length * sz := by rw [← flatMap_length he]; exact (List.getElem?_eq_some_iff.1 hu).1
      have hm0 : 0 < m.length := by
        rcases Nat.eq_zero_or_pos m.length with h0 | h0
        · rw [h0, Nat.zero_mul] at hj; omega
        · exact h0
      obtain ⟨b, of, hA, _, hcell⟩ := hc3 hm0
      cases hA
      have hq : j / sz < m.length := Nat.div_lt_of_lt_mul (by rw [Nat.mul_comm]; exact hj)
      have hr : j % sz < sz := Nat.mod_lt _ hsz
      have hget := flatMap_get he m (j / sz) m[j / sz] (List.getElem?_eq_getElem hq) (j % sz) ((enc m[j / sz])[j % sz]'(by rw [he]; exact hr)) (List.getElem?_eq_getElem _)
      have hsum : j / sz * sz + j % sz = j := by rw [Nat.mul_comm]; exact Nat.div_add_mod j sz
      rw [hsum, hu] at hget
      have h2 := hcell (j / sz) m[j / sz] (List.getElem?_eq_getElem hq) (j % sz) ((enc m[j / sz])[j % sz]'(by rw [he]; exact hr)) (List.getElem?_eq_getElem _)
      rw [addr_add, hget, ← h2]
      congr 2
      rw [Nat.add_assoc, hsum]
    · intro u hu
      obtain ⟨y, _, hy⟩ := List.mem_flatMap.1 hu
      exact h1 y u hy
    · simp only [maxLen]; omega
    · intro v' w' hown' hg _
      refine h v' w' ?_ hg
      unfold Own
      rw [List.length_append, List.flatMap_append]
      exact hown'

theorem Own.belowG {α : Type} {enc : α → List Value} {sz : Nat} {E : TypeId} {w w' : World} {base : Nat} {v : Value} {l : List α} (hown : Own enc sz E w base v l) (hbase : base ≤ w.heap.size) (hg : w.grownBy w' v.ownBlock) : Below base w w' := by
  refine (Below.refl base w).grown hg hbase (fun k e => ?_)
  have h : w.ownsRow base E sz v l.length (l.flatMap enc) := hown
  rcases h.2 with ⟨rfl, _⟩ | ⟨g, cap, cur, rfl, hgb, _⟩
  · simp [Value.ownBlock] at e
  · simp only [Value.ownBlock, Option.some.injEq] at e
    omega
end Go.Proofs.YtmhhcfceikcfbaaGreat
