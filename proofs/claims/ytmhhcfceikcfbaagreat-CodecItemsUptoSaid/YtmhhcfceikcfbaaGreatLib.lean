/- Words for memory, shared by all walks: a slice that reads as a list of elements, a slice of the call's own, endings. -/
import Derived.WalkKit
import Derived.WalkSpells
import Derived.WalkLawsBesides
import Derived.Lib.Hide
import Derived.Deep.Draws
import Derived.Laws.OwnMore
namespace Go.Proofs.YtmhhcfceikcfbaaGreat
open Go.RowKit

theorem ret_int {k : IntKind} {a b : Int} (h : a = b) : Ending.returned (.int k a) = .returned (.int k b) := by rw [h]
theorem ret_bool {a b : Bool} (h : a = b) : Ending.returned (.bool a) = .returned (.bool b) := by rw [h]

theorem addr_add (b o n : Nat) : (⟨b, o, none⟩ : Addr).add n = ⟨b, o + n, none⟩ := by unfold Addr.add; split <;> simp_all

/-- A slice value reads as a list; each element has the cells that 'enc' says. -/
def Sl {α : Type} (enc : α → List Value) (sz : Nat) (w : World) (B : Nat) (v : Value) (l : List α) : Prop :=
  ∃ A c, v = .slice A l.length c ∧ l.length ≤ c ∧ c ≤ maxLen ∧ (0 < l.length → ∃ b o, A = some ⟨b, o, none⟩ ∧ b < B ∧
    ∀ i x, l[i]? = some x → ∀ j u, (enc x)[j]? = some u → w.cell? ⟨b, o + i * sz + j, none⟩ = some u)

/-- A slice of the call's own, which may be appended to. -/
def Own {α : Type} (enc : α → List Value) (sz : Nat) (E : TypeId) (w : World) (base : Nat) (v : Value) (l : List α) : Prop :=
  w.ownsRow base E sz v l.length (l.flatMap enc)

section
variable {α : Type} {enc : α → List Value} {sz : Nat} {w w' : World} {B B' : Nat} {v : Value} {l : List α} {E : TypeId} {base : Nat}

theorem Sl.keep (h : Sl enc sz w B v l) (hk : ∀ p : Addr, p.block < B → w'.cell? p = w.cell? p) : Sl enc sz w' B v l := by
  obtain ⟨A, c, rfl, h1, h2, h3⟩ := h
  refine ⟨A, c, rfl, h1, h2, fun hn => ?_⟩
  obtain ⟨b, o, rfl, hb, hc⟩ := h3 hn
  exact ⟨b, o, rfl, hb, fun i x hx j u hu => (hk _ hb).trans (hc i x hx j u hu)⟩
theorem Sl.more (h : Sl enc sz w B v l) (hB : B ≤ B') : Sl enc sz w B' v l := by
  obtain ⟨A, c, rfl, h1, h2, h3⟩ := h
  refine ⟨A, c, rfl, h1, h2, fun hn => ?_⟩
  obtain ⟨b, o, rfl, hb, hc⟩ := h3 hn
  exact ⟨b, o, rfl, by omega, hc⟩
theorem Sl.below (h : Sl enc sz w B v l) (hb : Below B w w') : Sl enc sz w' B v l := h.keep fun _ hp => hb.cell hp
/-- Carried over a call: 'Below' at the heap's size of the world before. -/
theorem Sl.over (h : Sl enc sz w w.heap.size v l) (hb : Below w.heap.size w w') : Sl enc sz w' w'.heap.size v l := (h.below hb).more hb.size
theorem Sl.nil (w : World) (B : Nat) : Sl enc sz w B (.slice none 0 0) ([] : List α) := ⟨none, 0, rfl, by simp, by simp [maxLen], fun h => by simp at h⟩
theorem Sl.take (h : Sl enc sz w B v l) (n : Nat) : ∀ A m c, v = .slice A m c → Sl enc sz w B (.slice A (min m n) c) (l.take n) := by
  obtain ⟨A, c, rfl, h1, h2, h3⟩ := h
  rintro A' m' c' e
  injection e with e1 e2 e3
  subst e1 e2 e3
  refine ⟨A, c, by rw [List.length_take, Nat.min_comm], by rw [List.length_take]; omega, h2, fun hn => ?_⟩
  rw [List.length_take] at hn
  obtain ⟨b, o, rfl, hb, hc⟩ := h3 (by omega)
  refine ⟨b, o, rfl, hb, fun i x hx j u hu => hc i x ?_ j u hu⟩
  rw [List.getElem?_take] at hx
  split at hx
  · exact hx
  · cases hx

theorem flatMap_get (he : ∀ x, (enc x).length = sz) : ∀ (l : List α) (i : Nat) (x : α), l[i]? = some x → ∀ j u, (enc x)[j]? = some u → (l.flatMap enc)[i * sz + j]? = some u
  | [], i, x, h, _, _, _ => by simp at h
  | y :: r, 0, x, h, j, u, hu => by
    simp only [List.getElem?_cons_zero, Option.some.injEq] at h
    subst h
    rw [List.flatMap_cons, Nat.zero_mul, Nat.zero_add, List.getElem?_append_left]
    · exact hu
    · exact (List.getElem?_eq_some_iff.1 hu).1
  | y :: r, i + 1, x, h, j, u, hu => by
    rw [List.getElem?_cons_succ] at h
    rw [List.flatMap_cons, List.getElem?_append_right (by rw [he, Nat.succ_mul]; omega), he]
    have := flatMap_get he r i x h j u hu
    rw [← this]
    congr 1
    rw [Nat.succ_mul]; omega
theorem flatMap_length (he : ∀ x, (enc x).length = sz) (l : List α) : (l.flatMap enc).length = l.length * sz := by
  induction l with
  | nil => simp
  | cons y r ih => rw [List.flatMap_cons, List.length_append, he, ih, List.length_cons, Nat.succ_mul]; omega

theorem Own.sl (h : Own enc sz E w base v l) (he : ∀ x, (enc x).length = sz) : Sl enc sz w w.heap.size v l := by
  unfold Own at h
  rcases h.2 with ⟨rfl, hn⟩ | ⟨g, cap, cur, rfl, hb, hh, hc1, hc2, hc3, hc4⟩
  · have : l = [] := List.eq_nil_of_length_eq_zero hn
    subst this
    exact Sl.nil _ _
  · refine ⟨_, _, rfl, hc1, hc2, fun hn => ⟨g, 0, rfl, (Array.getElem?_eq_some_iff.1 hh).1, fun i x hx j u hu => ?_⟩⟩
    have := h.cells (g := g) rfl (i * sz + j) u (flatMap_get he l i x hx j u hu)
    rw [addr_add] at this
    rw [← this]
    congr 2
    omega
theorem Own.nil (w : World) (base : Nat) : Own enc sz E w base (.slice none 0 0) ([] : List α) := by
  have := World.ownsRow_nil w base E sz
  exact this
theorem Own.kept {row : Option Nat} (h : Own enc sz E w base v l) (hg : w.grownBy w' row) (hne : v.ownBlock = none ∨ v.ownBlock ≠ row) : Own enc sz E w' base v l :=
  World.ownsRow.kept h hg hne
theorem Own.alloc (h : Own enc sz E w base v l) (o : Obj) : Own enc sz E (w.alloc o) base v l := World.ownsRow.alloc h o
theorem Own.drew (h : Own enc sz E w base v l) : Own enc sz E w.drew base v l := h
theorem Own.drewN (h : Own enc sz E w base v l) (n : Nat) : Own enc sz E (w.drewN n) base v l := h
theorem Own.lower (h : Own enc sz E w base v l) {base' : Nat} (hb : base' ≤ base) : Own enc sz E w base' v l := by
  refine ⟨h.1, ?_⟩
  rcases h.2 with hn | ⟨g, cap, cur, hv, hg, r⟩
  · exact .inl hn
  · exact .inr ⟨g, cap, cur, hv, by omega, r⟩
/-- Over a call that leaves all that was there. -/
theorem Own.over (h : Own enc sz E w base v l) (hb : Below w.heap.size w w') : Own enc sz E w' base v l :=
  h.kept (row := none) ⟨hb.os, hb.tape, hb.output, hb.size, fun k hk _ => hb.block k hk⟩ (by cases hv : v.ownBlock <;> simp)
theorem Own.shape (h : Own enc sz E w base v l) : ∃ A c, v = .slice A l.length c ∧ l.length ≤ c ∧ c ≤ maxLen := by
  unfold Own at h
  rcases h.2 with ⟨rfl, hn⟩ | ⟨g, cap, cur, rfl, hb, hh, hc1, hc2, hc3, hc4⟩
  · exact ⟨none, 0, by rw [hn], by omega, by simp [maxLen]⟩
  · exact ⟨_, _, rfl, hc1, hc2⟩
theorem Own.len (h : Own enc sz E w base v l) : l.length ≤ maxLen := by
  obtain ⟨A, c, _, h1, h2⟩ := h.shape
  omega
end

/-- 'out = append(out, y)', out a slice of the call's own. -/
theorem wpList_push {α : Type} {enc : α → List Value} {P : Program} (w : World) {ops : Array Oper} {rest : List Oper} {o : Oper} {a : Act} {Q : Exit → Act → World → Prop}
    (hgd : o.guard = none) (s x : Operand) (t : TypeId)
    (ho : o.op = .call { callee := .builtin .append, args := #[s, x], argTypes := #[t, t] })
    (base : Nat) (E : TypeId) (i : TypeInfo) (z : Value) (sz bytes : Nat) (ht : P.underlying t = some (.slice E)) (hi : P.info? E = some i) (hz : i.zero = some z)
    (hsize : i.size = sz) (hby : i.bytes = bytes) (hzs : z.cells.size = sz) (hsz : 0 < sz) (he : ∀ x, (enc x).length = sz) (h1 : ∀ x, ∀ u ∈ enc x, u.oneCell' = true)
    (v : Value) (l : List α) (hs : a.eval s = v) (hown : Own enc sz E w base v l)
    (g c : Nat) (y : α) (hx : a.eval x = .slice (some ⟨g, 0, none⟩) 1 c) (hcell : ∀ j u, (enc y)[j]? = some u → w.cell? ⟨g, j, none⟩ = some u)
    (hbytes : (l.length + 1) * bytes ≤ 140737488355328) (hlen : l.length < 140737488355328) (hbase : base ≤ w.heap.size)
    (h : ∀ v' w', Own enc sz E w' base v' (l ++ [y]) → w.grownBy w' v.ownBlock → wpList P ops Q rest (a.put o.dst v') w') : wpList P ops Q (o :: rest) a w := by
  refine wpList_append_own _ hgd s x t ho base E i z sz bytes ht hi hz hsize hby hzs hsz v l.length (l.flatMap enc) hs hown ⟨g, 0, none⟩ 1 c (enc y) hx (by rw [he, Nat.one_mul]) ?_ (h1 y) ?_ hbytes hbase ?_
  · intro j u hu
    rw [addr_add, Nat.zero_add]
    exact hcell j u hu
  · simp only [maxLen]; omega
  · intro v' w' hown' hg _
    refine h v' w' ?_ hg
    unfold Own
    rw [List.length_append, List.flatMap_append]
    simpa using hown'

/-- The one cell, or the cells, of a block that was just made. -/
theorem cells_new (w : World) (cs : List Value) (E : TypeId) : ∀ j u, cs[j]? = some u → (w.alloc (.cells cs.toArray E)).cell? ⟨w.heap.size, j, none⟩ = some u := by
  intro j u hj
  rw [World.cell?_alloc_new]
  simpa using hj

/-- Old cells and old marks behind a call. -/
theorem bcell {W w1 : World} (hb : Below W.heap.size W w1) : (∀ b o, b < W.heap.size → w1.cell? ⟨b, o, none⟩ = W.cell? ⟨b, o, none⟩) ∧ (∀ b o, b < W.heap.size → w1.frozen? ⟨b, o, none⟩ = W.frozen? ⟨b, o, none⟩) :=
  ⟨fun b o h => hb.cell (p := ⟨b, o, none⟩) h, fun b o h => hb.frozen (p := ⟨b, o, none⟩) h⟩
theorem cell_over {w w' : World} {p : Addr} {v : Value} (h : w.cell? p = some v) (hb : Below w.heap.size w w') : w'.cell? p = some v := (hb.cell (World.block_lt_of_cell? _ _ h)).trans h
theorem below_drewN {B : Nat} {a w : World} (h : Below B a w) (n : Nat) : Below B a (w.drewN n) := ⟨h.os, h.tape, h.output, h.size, h.block⟩

theorem blk_cell {w : World} {g : Nat} {t : TypeId} {cs : Array Value} (h : w.heap[g]? = some (.cells cs t (0, 0))) (i : Nat) : w.cell? ⟨g, i, none⟩ = cs[i]? := cell_of_row w g i cs t (0, 0) h
theorem blk_free {w : World} {g : Nat} {t : TypeId} {cs : Array Value} (h : w.heap[g]? = some (.cells cs t (0, 0))) (i : Nat) : w.frozen? ⟨g, i, none⟩ = false := frozen_of_row w g i cs t h
theorem heap_alloc_new' (w : World) (o : Obj) {n : Nat} (h : n = w.heap.size) : (w.alloc o).heap[n]? = some o := by subst h; exact heap_alloc_new w o
theorem frozen_over {w w' : World} {p : Addr} {v : Value} (hc : w.cell? p = some v) (h : w.frozen? p = false) (hb : Below w.heap.size w w') : w'.frozen? p = false := (hb.frozen (World.block_lt_of_cell? _ _ hc)).trans h
theorem ret_two {a b c d : Int} (h : a = c) (h' : b = d) : Ending.returned (.tuple #[.int .i64 a, .int .i64 b]) = .returned (.tuple #[.int .i64 c, .int .i64 d]) := by rw [h, h']
end Go.Proofs.YtmhhcfceikcfbaaGreat
namespace Go.Proofs.YtmhhcfceikcfbaaGreat
open Go.RowKit

theorem run_append_no {P : Program} (w : World) (base : Nat) (t ty e : TypeId) (i : TypeInfo) (size : Nat) (ht : P.underlying t = some (.slice e)) (hi : P.info? e = some i)
    (v : Value) (n c : Nat) (xs : List Value) (hown : w.ownsRow base e size v n xs) :
    (Builtin.append_ #[t, t] ty #[v, .slice none 0 c]).run P w = .ok v w := by
  rcases hown.2 with ⟨rfl, rfl⟩ | ⟨g, cap, cur, rfl, _, _, hnc, _⟩
  · simp [Builtin.append_, run_underlying ht, sizeOf, typeInfo, hi, Builtin.lenOf, Builtin.firstCells]
  · simp [Builtin.append_, run_underlying ht, sizeOf, typeInfo, hi, Builtin.lenOf, Builtin.firstCells, hnc, storeCells]

theorem grown_refl (w : World) (row : Option Nat) : w.grownBy w row := ⟨rfl, rfl, rfl, Nat.le_refl _, fun _ _ _ => rfl⟩

/-- 'out = append(out, l...)', out a slice of the call's own. -/
theorem wpList_app {α : Type} {enc : α → List Value} {P : Program} (w : World) {ops : Array Oper} {rest : List Oper} {o : Oper} {a : Act} {Q : Exit → Act → World → Prop}
    (hgd : o.guard = none) (s x : Operand) (t : TypeId)
    (ho : o.op = .call { callee := .builtin .append, args := #[s, x], argTypes := #[t, t] })
    (base : Nat) (E : TypeId) (i : TypeInfo) (z : Value) (sz bytes : Nat) (ht : P.underlying t = some (.slice E)) (hi : P.info? E = some i) (hz : i.zero = some z)
    (hsize : i.size = sz) (hby : i.bytes = bytes) (hzs : z.cells.size = sz) (hsz : 0 < sz) (he : ∀ x, (enc x).length = sz) (h1 : ∀ x, ∀ u ∈ enc x, u.oneCell' = true)
    (v : Value) (l : List α) (hs : a.eval s = v) (hown : Own enc sz E w base v l)
    (B : Nat) (vx : Value) (m : List α) (hx : a.eval x = vx) (hsl : Sl enc sz w B vx m)
    (hbytes : (l.length + m.length) * bytes ≤ 140737488355328) (hlen : l.length + m.length ≤ 140737488355328) (hbase : base ≤ w.heap.size)
    (h : ∀ v' w', Own enc sz E w' base v' (l ++ m) → w.grownBy w' v.ownBlock → wpList P ops Q rest (a.put o.dst v') w') : wpList P ops Q (o :: rest) a w := by
  obtain ⟨A, c, rfl, hc1, hc2, hc3⟩ := hsl
  cases A with
  | none =>
    have hm : m = [] := by
      cases m with
      | nil => rfl
      | cons y r =>
        obtain ⟨b, o, hA, _⟩ := hc3 (by simp)
        cases hA
    subst hm
    refine wpList_plain hgd fun _ hK => ?_
    have hr := run_append_no (P := P) w base t o.type E i sz ht hi v l.length c (l.flatMap enc) hown
    unfold Oper.wp execOp
    simp only [ho, resolve, invoke, builtin, Sem.run_bind, Sem.run_pure, Result.andThen_ok, List.map_toArray, List.map_cons, List.map_nil, hs, hx, List.length_nil, hr]
    exact hK _ _ (h v w (by rw [List.append_nil]; exact hown) (grown_refl _ _))
  | some ad =>
    refine wpList_append_own _ hgd s x t ho base E i z sz bytes ht hi hz hsize hby hzs hsz v l.length (l.flatMap enc) hs hown ad m.length c (m.flatMap enc) hx (flatMap_length he m) ?_ ?_ ?_ hbytes hbase ?_
    · intro j u hu
      have hj : j < m.length * sz := by rw [← flatMap_length he]; exact (List.getElem?_eq_some_iff.1 hu).1
      have hm0 : 0 < m.length := by
        rcases Nat.eq_zero_or_pos m.length with h0 | h0
        · rw [h0, Nat.zero_mul] at hj; omega
        · exact h0
      obtain ⟨b, of, hA, _, hcell⟩ := hc3 hm0
      cases hA
      have hq : j / sz < m.length := Nat.div_lt_of_lt_mul (by rw [Nat.mul_comm]; exact hj)
      have hr : j % sz < sz := Nat.mod_lt _ hsz
      have hget := flatMap_get he m (j / sz) m[j / sz] (List.getElem?_eq_getElem hq) (j % sz) ((enc m[j / sz])[j % sz]'(by rw [he]; exact hr)) (List.getElem?_eq_getElem _)
      have hsum : j / sz * sz + j % sz = j := by rw [Nat.mul_comm]; exact Nat.div_add_mod j sz
      rw [hsum, hu] at hget
      have h2 := hcell (j / sz) m[j / sz] (List.getElem?_eq_getElem hq) (j % sz) ((enc m[j / sz])[j % sz]'(by rw [he]; exact hr)) (List.getElem?_eq_getElem _)
      rw [addr_add, hget, ← h2]
      congr 2
      rw [Nat.add_assoc, hsum]
    · intro u hu
      obtain ⟨y, _, hy⟩ := List.mem_flatMap.1 hu
      exact h1 y u hy
    · simp only [maxLen]; omega
    · intro v' w' hown' hg _
      refine h v' w' ?_ hg
      unfold Own
      rw [List.length_append, List.flatMap_append]
      exact hown'

theorem Own.belowG {α : Type} {enc : α → List Value} {sz : Nat} {E : TypeId} {w w' : World} {base : Nat} {v : Value} {l : List α} (hown : Own enc sz E w base v l) (hbase : base ≤ w.heap.size) (hg : w.grownBy w' v.ownBlock) : Below base w w' := by
  refine (Below.refl base w).grown hg hbase (fun k e => ?_)
  have h : w.ownsRow base E sz v l.length (l.flatMap enc) := hown
  rcases h.2 with ⟨rfl, _⟩ | ⟨g, cap, cur, rfl, hgb, _⟩
  · simp [Value.ownBlock] at e
  · simp only [Value.ownBlock, Option.some.injEq] at e
    omega
end Go.Proofs.YtmhhcfceikcfbaaGreat
