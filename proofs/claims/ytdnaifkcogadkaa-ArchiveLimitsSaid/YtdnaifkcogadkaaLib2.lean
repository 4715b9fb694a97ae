/- Words for memory, more: appending a slice that reads as a list; appending onto a full slice; s[k:]. -/
import Derived.Lib.AppendZeros
import Derived.Deep.AppendLies
import Derived.Test.YtdnaifkcogadkaaE3
namespace Go.Proofs.Ytdnaifkcogadkaa
open Go.RowKit

section
variable {α : Type} {enc : α → List Value} {sz : Nat}
theorem flatMap_inv (he : ∀ x, (enc x).length = sz) (hsz : 0 < sz) : ∀ (l : List α) (j : Nat) (u : Value), (l.flatMap enc)[j]? = some u → ∃ i x r, j = i * sz + r ∧ l[i]? = some x ∧ (enc x)[r]? = some u
  | [], j, u, h => by simp at h
  | y :: r, j, u, h => by
    rw [List.flatMap_cons] at h
    by_cases hj : j < sz
    · rw [List.getElem?_append_left (by rw [he]; exact hj)] at h
      exact ⟨0, y, j, by omega, rfl, h⟩
    · rw [List.getElem?_append_right (by rw [he]; omega), he] at h
      obtain ⟨i, x, q, h1, h2, h3⟩ := flatMap_inv he hsz r _ u h
      exact ⟨i + 1, x, q, by rw [Nat.succ_mul]; omega, h2, h3⟩

/-- 'append(out, xs...)': out of the call's own, xs read as a list, nil or not. -/
theorem run_append_sl {P : Program} (w : World) (t ty : TypeId) (base : Nat) (E : TypeId) (i : TypeInfo) (z : Value) (bytes : Nat) (ht : P.underlying t = some (.slice E)) (hi : P.info? E = some i) (hz : i.zero = some z)
    (hsize : i.size = sz) (hby : i.bytes = bytes) (hzs : z.cells.size = sz) (hsz : 0 < sz) (he : ∀ x, (enc x).length = sz) (h1 : ∀ x, ∀ u ∈ enc x, u.oneCell' = true)
    (v : Value) (l : List α) (hown : Own enc sz E w base v l) (B : Nat) (x : Value) (l2 : List α) (hx : Sl enc sz w B x l2)
    (hbytes : (l.length + l2.length) * bytes ≤ 140737488355328) (hlen : l.length + l2.length ≤ 140737488355328) (hbase : base ≤ w.heap.size) :
    ∃ v' w', (Builtin.append_ #[t, t] ty #[v, x]).run P w = .ok v' w' ∧ Own enc sz E w' base v' (l ++ l2) ∧ w.grownBy w' v.ownBlock := by
  obtain ⟨A, c, rfl, hc1, hc2, hA⟩ := hx
  cases A with
  | none =>
    have hm : l2.length = 0 := by
      rcases Nat.eq_zero_or_pos l2.length with h0 | h0
      · exact h0
      · obtain ⟨b, o, h, _⟩ := hA h0
        cases h
    have hl2 : l2 = [] := List.eq_nil_of_length_eq_zero hm
    subst hl2
    refine ⟨v, w, ?_, by simpa using hown, ⟨rfl, rfl, rfl, Nat.le_refl _, fun _ _ _ => rfl⟩⟩
    have hown' := hown
    unfold Own at hown'
    rcases hown'.2 with ⟨rfl, _⟩ | ⟨g, cap, cur, rfl, _, _, hnc, _⟩
    · simp [Builtin.append_, run_underlying ht, sizeOf, typeInfo, hi, Builtin.lenOf, Builtin.firstCells]
    · simp [Builtin.append_, run_underlying ht, sizeOf, typeInfo, hi, Builtin.lenOf, Builtin.firstCells, hnc, storeCells]
  | some ad =>
    obtain ⟨v', w', hr, h2, h3, _⟩ := run_append_own (P := P) w base t ty E i z sz bytes ht hi hz hsize hby hzs hsz v l.length (l.flatMap enc) hown ad l2.length c (l2.flatMap enc) (flatMap_length he l2)
      (by
        intro j u hu
        obtain ⟨i, y, r, rfl, hy, hr⟩ := flatMap_inv he hsz l2 j u hu
        obtain ⟨b, o, h, _, hcell⟩ := hA (by have := (List.getElem?_eq_some_iff.1 hy).1; omega)
        injection h with h
        subst h
        rw [addr_add, ← Nat.add_assoc]
        exact hcell i y hy r u hr)
      (by intro u hu; obtain ⟨y, _, hy⟩ := List.mem_flatMap.1 hu; exact h1 y u hy) (by simp only [maxLen]; omega) hbytes hbase
    refine ⟨v', w', hr, ?_, h3⟩
    unfold Own
    rw [List.length_append, List.flatMap_append]
    exact h2

theorem step_append_sl {P : Program} (w : World) {ops : Array Oper} {o : Oper} {a : Act} {K : Act → World → Prop} {Q : Exit → Act → World → Prop} {E0 : Prop} (hgd : o.guard = none) (s x : Operand) (t : TypeId)
    (ho : o.op = .call { callee := .builtin .append, args := #[s, x], argTypes := #[t, t] })
    (base : Nat) (E : TypeId) (i : TypeInfo) (z : Value) (bytes : Nat) (ht : P.underlying t = some (.slice E)) (hi : P.info? E = some i) (hz : i.zero = some z)
    (hsize : i.size = sz) (hby : i.bytes = bytes) (hzs : z.cells.size = sz) (hsz : 0 < sz) (he : ∀ x, (enc x).length = sz) (h1 : ∀ x, ∀ u ∈ enc x, u.oneCell' = true)
    (v : Value) (l : List α) (hs : a.eval s = v) (hown : Own enc sz E w base v l) (B : Nat) (vx : Value) (l2 : List α) (hvx : a.eval x = vx) (hx : Sl enc sz w B vx l2)
    (hbytes : (l.length + l2.length) * bytes ≤ 140737488355328) (hlen : l.length + l2.length ≤ 140737488355328) (hbase : base ≤ w.heap.size)
    (h : ∀ v' w', Own enc sz E w' base v' (l ++ l2) → w.grownBy w' v.ownBlock → K (a.put o.dst v') w') : if Region.wanted o (yielded ops a.tmps) = true then Oper.wp P o a w K Q else E0 := by
  have hw : Region.wanted o (yielded ops a.tmps) = true := by simp [Region.wanted, hgd]
  rw [if_pos hw]
  obtain ⟨v', w', hr, h2, h3⟩ := run_append_sl (P := P) w t o.type base E i z bytes ht hi hz hsize hby hzs hsz he h1 v l hown B vx l2 hx hbytes hlen hbase
  exact Lib.wp_append_run w s x t t ho v vx hs hvx v' w' hr (h v' w' h2 h3)

/-- 'append(s[:k:k], xs...)': onto a full slice, nil or not: a new row is made. -/
theorem step_append_full {P : Program} (w : World) {ops : Array Oper} {o : Oper} {a : Act} {K : Act → World → Prop} {Q : Exit → Act → World → Prop} {E0 : Prop} (hgd : o.guard = none) (s x : Operand) (t : TypeId)
    (ho : o.op = .call { callee := .builtin .append, args := #[s, x], argTypes := #[t, t] })
    (E : TypeId) (i : TypeInfo) (z : Value) (bytes : Nat) (ht : P.underlying t = some (.slice E)) (hi : P.info? E = some i) (hz : i.zero = some z)
    (hsize : i.size = sz) (hby : i.bytes = bytes) (hzs : z.cells.size = sz) (hsz : 0 < sz) (he : ∀ x, (enc x).length = sz) (h1 : ∀ x, ∀ u ∈ enc x, u.oneCell' = true)
    (v : Value) (B : Nat) (l : List α) (hs : a.eval s = v) (hv : ∃ A, v = .slice A l.length l.length) (hl : Sl enc sz w B v l) (base : Nat) (vx : Value) (l2 : List α) (hvx : a.eval x = vx) (hx : Own enc sz E w base vx l2) (hpos : 0 < l2.length)
    (hbytes : (l.length + l2.length) * bytes ≤ 140737488355328) (hlen : l.length + l2.length ≤ 140737488355328)
    (h : ∀ v' w', Own enc sz E w' w.heap.size v' (l ++ l2) → w.grownBy w' none → K (a.put o.dst v') w') : if Region.wanted o (yielded ops a.tmps) = true then Oper.wp P o a w K Q else E0 := by
  have hw : Region.wanted o (yielded ops a.tmps) = true := by simp [Region.wanted, hgd]
  rw [if_pos hw]
  have hx' : w.ownsRow base E sz vx l2.length (l2.flatMap enc) := hx
  have hone : ∀ u ∈ l2.flatMap enc, u.oneCell' = true := fun u hu => by
    obtain ⟨y, _, hy⟩ := List.mem_flatMap.1 hu
    exact h1 y u hy
  rcases hx'.2 with ⟨_, hn⟩ | ⟨g, cap, cur, rfl, _⟩
  · omega
  have hcx := hx'.cells (g := g) rfl
  obtain ⟨A, rfl⟩ := hv
  obtain ⟨A', c', e, _, _, hA⟩ := hl
  injection e with e1 _ e2
  subst e1 e2
  cases A with
  | some ad =>
    obtain ⟨v', w', hr, r1, r2⟩ := run_append_arg_grows (P := P) w t o.type E i z sz bytes ht hi hz hsize hby hzs hsz ad l.length l.length (l.flatMap enc) (flatMap_length he l)
      (by
        intro j u hu
        obtain ⟨i, y, r, rfl, hy, hr⟩ := flatMap_inv he hsz l j u hu
        obtain ⟨b, o, h, _, hcell⟩ := hA (by have := (List.getElem?_eq_some_iff.1 hy).1; omega)
        injection h with h
        subst h
        rw [addr_add, ← Nat.add_assoc]
        exact hcell i y hy r u hr) ⟨g, 0, none⟩ l2.length cap (l2.flatMap enc) (flatMap_length he l2) hcx (by omega) (by simp only [maxLen]; omega) hbytes
    refine Lib.wp_append_run w s x t t ho _ _ hs hvx v' w' hr (h v' w' ?_ r2)
    unfold Own
    rw [List.length_append, List.flatMap_append]
    exact r1
  | none =>
    have hm : l = [] := by
      rcases Nat.eq_zero_or_pos l.length with h0 | h0
      · exact List.eq_nil_of_length_eq_zero h0
      · obtain ⟨b, o, h, _⟩ := hA h0
        cases h
    subst hm
    obtain ⟨v', w', hr, r1, r2, _⟩ := run_append_own (P := P) w w.heap.size t o.type E i z sz bytes ht hi hz hsize hby hzs hsz (.slice none 0 0) 0 [] (World.ownsRow_nil w _ E sz) ⟨g, 0, none⟩ l2.length cap (l2.flatMap enc) (flatMap_length he l2) hcx hone (by simp only [maxLen]; simp at hlen; omega) (by simpa using hbytes) (Nat.le_refl _)
    refine Lib.wp_append_run w s x t t ho _ _ hs hvx v' w' hr (h v' w' ?_ r2)
    unfold Own
    simpa using r1
/-- s[k:], where it is not all of the room. -/
theorem Sl.from {w : World} {B b o n c : Nat} {l : List α} (he : ∀ x, (enc x).length = sz) (h : Sl enc sz w B (.slice (some ⟨b, o, none⟩) n c) l) (k : Nat) (hk : k ≤ n) : Sl enc sz w B (.slice (some ⟨b, o + k * sz, none⟩) (n - k) (c - k)) (l.drop k) := by
  obtain ⟨A, c', e, h1, h2, hA⟩ := h
  injection e with e1 e3 e2
  subst e1 e2 e3
  refine ⟨_, _, by rw [List.length_drop], by rw [List.length_drop]; omega, by omega, fun hn => ?_⟩
  rw [List.length_drop] at hn
  obtain ⟨b', o', e, hb, hcell⟩ := hA (by omega)
  cases e
  refine ⟨b, o + k * sz, rfl, hb, fun i x hx j u hu => ?_⟩
  rw [List.getElem?_drop] at hx
  have := hcell (k + i) x hx j u hu
  rw [show o + k * sz + i * sz + j = o + (k + i) * sz + j by rw [Nat.add_mul]; omega]
  exact this
theorem Sl.upto {w : World} {B n c : Nat} {A : Option Addr} {l : List α} (h : Sl enc sz w B (.slice A n c) l) (k : Nat) (hk : k ≤ n) : Sl enc sz w B (.slice A k k) (l.take k) := by
  obtain ⟨A', c', e, h1, h2, hA⟩ := h
  injection e with e1 e3 e2
  subst e1 e2 e3
  refine ⟨_, k, by rw [List.length_take, Nat.min_eq_left hk], by rw [List.length_take]; omega, by omega, fun hn => ?_⟩
  rw [List.length_take] at hn
  obtain ⟨b', o', e, hb, hcell⟩ := hA (by omega)
  refine ⟨b', o', e, hb, fun i x hx j u hu => ?_⟩
  rw [List.getElem?_take] at hx
  split at hx
  · exact hcell i x hx j u hu
  · cases hx
end
end Go.Proofs.Ytdnaifkcogadkaa
