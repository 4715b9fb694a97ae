/- A drawn region whose calls and stores have one order, beside loads of cells that no operation turns: walked once. -/
import Derived.OrdersHeld
import Derived.Tactics
import Derived.Deep.RegionHeld3
import Derived.Deep.MidRow
import Derived.Laws.Rows
import Derived.Laws.OwnMore
namespace Go.Proofs.YtmhhcfceikcfbaaGreat
open Go

section
variable {P : Program} {ops : Array Oper} {Q : Exit → Act → World → Prop} {S : World → Prop} {md : Region.Mode}

/-- The operations in this order: a load is taken ahead, behind any other S is shown anew. -/
def wpHeld (P : Program) (ops : Array Oper) (Q : Exit → Act → World → Prop) (S : World → Prop) : List (Bool × Oper) → Act → World → Prop
  | [], a, w => Q .normal a w
  | (true, o) :: r, a, w => ∃ v, YieldsIf P ops S o v a ∧ wpHeld P ops Q S r (a.put o.dst v) w
  | (false, o) :: r, a, w =>
    if Region.wanted o (yielded ops a.tmps) then o.wp P a w (fun a' w' => S w' ∧ wpHeld P ops Q S r a' w') Q ∨ (o.asks P a w ∧ LetsOut Q) else S w ∧ wpHeld P ops Q S r (a.put o.dst undef) w
def heldB (md : Region.Mode) (ops : Array Oper) : List (Bool × Nat) → Array Bool → Bool
  | [], listed => (Region.ready md ops listed).isEmpty
  | (true, i) :: r, listed => (Region.ready md ops listed).contains i && Region.free md ops listed i && heldB md ops r (listed.setIfInBounds i true)
  | (false, i) :: r, listed => decide (Region.ready md ops listed = [i]) && heldB md ops r (listed.setIfInBounds i true)
def pickL (l : List Oper) : List (Bool × Nat) → List (Bool × Oper)
  | [] => []
  | (b, i) :: r => match l[i]? with
    | some o => (b, o) :: pickL l r
    | none => pickL l r
theorem held_sound {l : List Oper} (hns : Region.noSelect l.toArray = true) (hQ : ∀ d v c a w, Q (.panic c) (Act.put a d v) w → Q (.panic c) a w) :
    ∀ (st : List (Bool × Nat)) (listed : Array Bool) (a : Act) (w : World), st.all (fun x => decide (x.2 < l.length)) = true → heldB md l.toArray st listed = true → S w →
      wpHeld P l.toArray Q S (pickL l st) a w → wpAnyH P md l.toArray Q S st.length listed a w
  | [], listed, a, w, _, hB, _, h => ⟨by simpa [heldB] using hB, h⟩
  | (true, i) :: st, listed, a, w, hlt, hB, hS, h => by
    simp only [List.all_cons, Bool.and_eq_true, decide_eq_true_eq] at hlt
    simp only [heldB, Bool.and_eq_true] at hB
    have hi : l[i]? = some l[i] := List.getElem?_eq_getElem hlt.1
    simp only [pickL, hi, wpHeld] at h
    obtain ⟨v, hy, h⟩ := h
    exact wpAnyH_take (i := i) (oi := l[i]) (v := v) (by simp [hi]) hns hB.1.2 hB.1.1 (fun c a w => hQ _ _ c a w) hy hS (held_sound hns hQ st _ _ _ hlt.2 hB.2 hS h)
  | (false, i) :: st, listed, a, w, hlt, hB, hS, h => by
    simp only [List.all_cons, Bool.and_eq_true, decide_eq_true_eq] at hlt
    simp only [heldB, Bool.and_eq_true, decide_eq_true_eq] at hB
    have hi : l[i]? = some l[i] := List.getElem?_eq_getElem hlt.1
    simp only [pickL, hi, wpHeld] at h
    refine wpAnyH_all hB.1 (by simp) ?_
    intro j hj
    have hj' : j = i := by simpa using hj
    subst hj'
    have hi' : l.toArray[j]? = some l[j] := by simp [hi]
    have hw : wpOp P l.toArray Q j (fun a' w' => S w' ∧ wpHeld P l.toArray Q S (pickL l st) a' w') a w := by
      unfold wpOp
      simp only [hi']
      exact h
    exact wpOp_mono (fun a' w' h' => ⟨h'.1, held_sound hns hQ st _ _ _ hlt.2 hB.2 h'.1 h'.2⟩) hw
/-- The same where no operation is guarded. -/
def wpSq (P : Program) (Q : Exit → Act → World → Prop) (S : World → Prop) : List (Bool × Oper) → Act → World → Prop
  | [], a, w => Q .normal a w
  | (true, o) :: r, a, w => ∃ v, (∀ w, S w → (execOp a.eval o).run P w = .ok (.value v) w) ∧ wpSq P Q S r (a.put o.dst v) w
  | (false, o) :: r, a, w => o.wp P a w (fun a' w' => S w' ∧ wpSq P Q S r a' w') (NoPanic Q)
theorem held_of_sq : ∀ (l : List (Bool × Oper)) (a : Act) (w : World), l.all (fun x => x.2.guard.isNone) = true → wpSq P Q S l a w → wpHeld P ops (NoPanic Q) S l a w
  | [], a, w, _, h => NoPanic.normal h
  | (true, o) :: r, a, w, hg, h => by
    simp only [List.all_cons, Bool.and_eq_true, Option.isNone_iff_eq_none] at hg
    obtain ⟨v, hy, h⟩ := h
    exact ⟨v, .inl ⟨by simp [Region.wanted, hg.1], hy⟩, held_of_sq r _ _ hg.2 h⟩
  | (false, o) :: r, a, w, hg, h => by
    simp only [List.all_cons, Bool.and_eq_true, Option.isNone_iff_eq_none] at hg
    unfold wpHeld
    rw [if_pos (by simp [Region.wanted, hg.1])]
    exact .inl (Oper.wp_mono (fun a' w' h' => ⟨h'.1, held_of_sq r _ _ hg.2 h'.2⟩) h)
/-- The beginning. -/
theorem wp_region_seq {id : Nat} {a : Act} {w : World} {l : List Oper} (st : List (Bool × Nat)) (hm : P.follows .mixedOrders = true)
    (hB : (Region.noSelect l.toArray && decide (st.length = l.length) && st.all (fun x => decide (x.2 < l.length)) && (pickL l st).all (fun x => x.2.guard.isNone) && heldB .any l.toArray st (Array.replicate l.toArray.size false)) = true)
    (hS : S w.drew) (h : wpSq P Q S (pickL l st) a w.drew) : (Code.region id l.toArray true).wp P Q a w := by
  simp only [Bool.and_eq_true, decide_eq_true_eq] at hB
  obtain ⟨⟨⟨⟨h1, h2⟩, h3⟩, h5⟩, h4⟩ := hB
  refine wp_region_noPanic ?_
  refine wp_region_held_drew (S := S) hm hS (fun _ => ?_)
  have := held_sound (P := P) (md := .any) (Q := NoPanic Q) (S := S) h1 (fun _ _ _ _ _ h => h) st _ a w.drew h3 h4 hS (held_of_sq _ _ _ h5 h)
  rw [h2] at this
  simpa using this
theorem sq_done {a : Act} {w : World} (h : Q .normal a w) : wpSq P Q S [] a w := h
theorem sq_load {o : Oper} {r : List (Bool × Oper)} {a : Act} {w : World} (v : Value) (hy : ∀ w, S w → (execOp a.eval o).run P w = .ok (.value v) w)
    (h : wpSq P Q S r (a.put o.dst v) w) : wpSq P Q S ((true, o) :: r) a w := ⟨v, hy, h⟩
theorem sq_call {o : Oper} {r : List (Bool × Oper)} {a : Act} {w : World} (f : FuncId) (args : Array Value) (hr : (execOp a.eval o).run P w = .ok (.enter f args) w)
    (h : Calls P f args w fun e w' => ∃ v, e = .returned v ∧ S w' ∧ wpSq P Q S r (a.put o.dst v) w') : wpSq P Q S ((false, o) :: r) a w := by
  unfold wpSq Oper.wp
  rw [hr]
  refine Calls.mono h ?_
  rintro e w' ⟨v, rfl, h1, h2⟩
  exact ⟨h1, h2⟩
theorem sq_value {o : Oper} {r : List (Bool × Oper)} {a : Act} {w : World} (v : Value) (w' : World) (hr : (execOp a.eval o).run P w = .ok (.value v) w')
    (hS : S w') (h : wpSq P Q S r (a.put o.dst v) w') : wpSq P Q S ((false, o) :: r) a w := by
  unfold wpSq Oper.wp
  rw [hr]
  exact ⟨hS, h⟩
theorem sq_skip {o : Oper} {r : List (Bool × Oper)} {a : Act} {w : World} (w' : World) (hr : (execOp a.eval o).run P w = .ok .skip w')
    (hS : S w') (h : wpSq P Q S r (a.put o.dst undef) w') : wpSq P Q S ((false, o) :: r) a w := by
  unfold wpSq Oper.wp
  rw [hr]
  exact ⟨hS, h⟩
/-- A region whose order is the text's. -/
theorem wp_region_seq0 {id : Nat} {a : Act} {w : World} {l : List Oper} (hB : l.all (fun o => o.guard.isNone) = true) (h : wpSq P Q (fun _ => True) (l.map (fun o => (false, o))) a w) : (Code.region id l.toArray false).wp P Q a w := by
  refine wp_region_noPanic (wp_region_lit ?_)
  have key : ∀ (m : List Oper) (a : Act) (w : World), m.all (fun o => o.guard.isNone) = true → wpSq P Q (fun _ => True) (m.map (fun o => (false, o))) a w → wpList P l.toArray (NoPanic Q) m a w := by
    intro m
    induction m with
    | nil => intro a w _ h; exact NoPanic.normal h
    | cons o r ih =>
      intro a w hg h
      simp only [List.all_cons, Bool.and_eq_true, Option.isNone_iff_eq_none] at hg
      refine wpList_plain hg.1 fun K hK => ?_
      exact Oper.wp_mono (fun a' w' h' => hK a' w' (ih a' w' hg.2 h'.2)) h
  exact key l a w hB h
def putAll (old : Array Value) : Nat → List Value → Array Value
  | _, [] => old
  | k, v :: r => putAll (old.setIfInBounds k v) (k + 1) r
theorem setCells_blk (g : Nat) (t : TypeId) : ∀ (cs : List Value) (k : Nat) (old : Array Value) (w : World), w.heap[g]? = some (.cells old t (0, 0)) → (w.setCells g k cs).heap[g]? = some (.cells (putAll old k cs) t (0, 0)) ∧ w.grownBy (w.setCells g k cs) (some g)
  | [], k, old, w, h => ⟨h, rfl, rfl, rfl, Nat.le_refl _, fun _ _ _ => rfl⟩
  | v :: r, k, old, w, h => by
    obtain ⟨h1, h2⟩ := setCells_blk g t r (k + 1) (old.setIfInBounds k v) (w.setCell ⟨g, k, none⟩ v) (heap_setCell_same w g k old t v h)
    refine ⟨h1, h2.os, h2.tape, h2.output, Nat.le_trans (by simp) h2.size, fun i hi hn => ?_⟩
    exact (h2.block i (by simpa using hi) hn).trans (heap_setCell_other w ⟨g, k, none⟩ i v (fun e => hn (by rw [e])))
theorem sq_store {o : Oper} {r : List (Bool × Oper)} {a : Act} {w : World} (ty : TypeId) (x y : Operand) (ho : o.op = .store ty x y) (hd : o.dst = none) (g k : Nat) (t : TypeId) (old new : Array Value) (cs : List Value)
    (hx : a.eval x = .pointer (some ⟨g, k, none⟩)) (hy : (a.eval y).cells = cs.toArray) (hg : w.heap[g]? = some (.cells old t (0, 0))) (hi : (P.info? ty).map (·.size) = some cs.length)
    (h1 : ∀ v ∈ cs, v.oneCell' = true) (hn : putAll old k cs = new) (hfit : k + cs.length ≤ old.size)
    (h : ∀ w', w'.heap[g]? = some (.cells new t (0, 0)) → w.grownBy w' (some g) → S w' ∧ wpSq P Q S r a w') : wpSq P Q S ((false, o) :: r) a w := by
  have hst := run_storeCells_cells (P := P) g k cs 0 w (fun j hj => by
    have : w.cell? ⟨g, k + 0 + j, none⟩ = some old[k + 0 + j] := by
      rw [cell_of_row w g (k + 0 + j) old t (0, 0) hg]
      exact Array.getElem?_eq_getElem (by omega)
    rw [this]
    rfl) (fun j hj => frozen_of_row w g _ old t hg) h1
  have hrun : (execOp a.eval o).run P w = .ok .skip (w.setCells g k cs) := by
    unfold execOp
    simp only [ho, hx, Instr.storeAt, Instr.sureAddr, Sem.run_bind, Sem.run_pure, Result.andThen_ok]
    cases hq : P.info? ty with
    | none => simp [hq] at hi
    | some i =>
      have hs : i.size = cs.length := by simpa [hq] using hi
      simp only [Nat.add_zero] at hst
      simp [storeVar, sizeOf, typeInfo, hq, hy, hs, hst]
  obtain ⟨b1, b2⟩ := setCells_blk g t cs k old w hg
  rw [hn] at b1
  obtain ⟨k1, k2⟩ := h _ b1 b2
  refine sq_skip (w.setCells g k cs) hrun k1 ?_
  rw [hd]
  exact k2
theorem sq_load_row {o : Oper} {r : List (Bool × Oper)} {a : Act} {w : World} (ty : TypeId) (x : Operand) (ho : o.op = .load ty x) (g : Nat) (t : TypeId) (cs : Array Value) (d : TypeDesc)
    (hx : a.eval x = .pointer (some ⟨g, 0, none⟩)) (hg : w.heap[g]? = some (.cells cs t (0, 0))) (hu : P.underlying ty = some d) (hd : (match d with | .struct _ | .array _ _ => true | _ => false) = true) (hi : (P.info? ty).map (·.size) = some cs.size)
    (hS : S w) (h : wpSq P Q S r (a.put o.dst (.agg cs)) w) : wpSq P Q S ((false, o) :: r) a w := by
  refine sq_value (.agg cs) w ?_ hS h
  unfold execOp
  simp only [ho, hx, Instr.loadAt, Instr.sureAddr, Sem.run_bind, Sem.run_pure, Result.andThen_ok, run_loadVar_row w g t ty cs (0, 0) d hg hu hd hi]
theorem sq_pure {o : Oper} {r : List (Bool × Oper)} {a : Act} {w : World} (v : Value) (hr : (execOp a.eval o).run P w = .ok (.value v) w)
    (hS : S w) (h : wpSq P Q S r (a.put o.dst v) w) : wpSq P Q S ((false, o) :: r) a w := sq_value v w hr hS h
theorem putAll_get (cs : List Value) : ∀ (k : Nat) (old : Array Value) (j : Nat), k + cs.length ≤ old.size → (putAll old k cs)[j]? = if k ≤ j ∧ j < k + cs.length then cs[j - k]? else old[j]? := by
  induction cs with
  | nil =>
    intro k old j _
    rw [putAll, if_neg (by simp)]
  | cons v r ih =>
    intro k old j h
    simp only [List.length_cons] at h ⊢
    rw [putAll, ih (k + 1) _ j (by simp; omega)]
    by_cases h1 : j = k
    · subst h1
      rw [if_neg (by omega), if_pos (by omega), Nat.sub_self, List.getElem?_cons_zero, Array.getElem?_setIfInBounds_self_of_lt (by omega)]
    · by_cases h2 : k + 1 ≤ j ∧ j < k + 1 + r.length
      · rw [if_pos h2, if_pos (by omega)]
        obtain ⟨m, rfl⟩ : ∃ m, j = k + 1 + m := ⟨j - (k + 1), by omega⟩
        rw [Nat.add_sub_cancel_left, show k + 1 + m - k = m + 1 by omega, List.getElem?_cons_succ]
      · rw [if_neg h2, if_neg (by omega), Array.getElem?_setIfInBounds_ne (by omega)]
theorem putAll_whole {old : Array Value} {cs : List Value} (h : old.size = cs.length) : putAll old 0 cs = cs.toArray := by
  apply Array.ext_getElem?
  intro j
  rw [putAll_get cs 0 old j (by omega)]
  by_cases hj : j < cs.length
  · rw [if_pos (by omega)]
    simp
  · rw [if_neg (by omega), Array.getElem?_eq_none (by omega), Array.getElem?_eq_none (by simpa using hj)]
/-- A whole row stored. -/
theorem sq_store_row {o : Oper} {r : List (Bool × Oper)} {a : Act} {w : World} (ty : TypeId) (x y : Operand) (ho : o.op = .store ty x y) (hd : o.dst = none) (g : Nat) (t : TypeId) (old : Array Value) (cs : List Value)
    (hx : a.eval x = .pointer (some ⟨g, 0, none⟩)) (hy : a.eval y = .agg cs.toArray) (hg : w.heap[g]? = some (.cells old t (0, 0))) (hi : (P.info? ty).map (·.size) = some cs.length)
    (h1 : ∀ v ∈ cs, v.oneCell' = true) (hl : old.size = cs.length)
    (h : ∀ w', w'.heap[g]? = some (.cells cs.toArray t (0, 0)) → w.grownBy w' (some g) → S w' ∧ wpSq P Q S r a w') : wpSq P Q S ((false, o) :: r) a w :=
  sq_store ty x y ho hd g 0 t old cs.toArray cs hx (by rw [hy]; rfl) hg hi h1 (putAll_whole hl) (by omega) h
end
end Go.Proofs.YtmhhcfceikcfbaaGreat
