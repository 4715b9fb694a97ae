/- A drawn region in one order, some of whose loads hold only up to a certain operation. -/
import Derived.Test.YtmhhcfceikcfbaaGreatSq
namespace Go.Proofs.YtmhhcfceikcfbaaGreat
open Go

section
variable {P : Program} {ops : Array Oper} {Q : Exit → Act → World → Prop} {S : World → Prop} {md : Region.Mode} {m : Nat}

theorem Oper.wp_mono2 {o : Oper} {a : Act} {w : World} {K K' : Act → World → Prop} {Q Q' : Exit → Act → World → Prop} (h : ∀ a w, K a w → K' a w)
    (hp : ∀ c a w, Q (.panic c) a w → Q' (.panic c) a w) (hL : LetsOut Q → LetsOut Q') (hh : o.wp P a w K Q) : o.wp P a w K' Q' := by
  unfold Oper.wp at *
  generalize (execOp a.eval o).run P w = r at *
  cases r with
  | ok n w' =>
    cases n <;> simp only [Oper.upon] at hh ⊢ <;>
      first
        | exact h _ _ hh
        | exact Calls.mono hh (fun e w'' he => by cases e <;> first | exact h _ _ he | exact hp _ _ _ he | exact hL he)
        | exact Rows.mono hh (fun _ _ he => h _ _ he)
  | halt x w' => cases x <;> simp only [Oper.upon] at hh ⊢ <;> first | exact hp _ _ _ hh | exact hh
/-- What follows one operation: only where it ends. -/
def Then1 (K : Act → World → Prop) : Exit → Act → World → Prop
  | .normal, a, w => K a w
  | _, _, _ => False
/-- One operation by a law on lists of operations. -/
theorem sq_of_list {o : Oper} {r : List (Bool × Oper)} {a : Act} {w : World} (hg : o.guard = none)
    (h : wpList P #[] (Then1 (fun a w => S w ∧ wpSq P Q S r a w)) [o] a w) : wpSq P Q S ((false, o) :: r) a w := by
  unfold wpSq
  unfold wpList at h
  rw [if_pos (by simp [Region.wanted, hg])] at h
  rcases h with h | ⟨_, _, _, h⟩
  · exact Oper.wp_mono2 (fun _ _ h => h) (fun _ _ _ h => h.elim) (fun ⟨_, _, h⟩ => h.elim) h
  · exact h.elim
theorem list_done {K : Act → World → Prop} {a : Act} {w : World} (h : K a w) : wpList P #[] (Then1 K) [] a w := h

/-- A region some of whose operations are guarded. -/
theorem wp_region_guard {id : Nat} {a : Act} {w : World} {l : List Oper} (st : List (Bool × Nat)) (hm : P.follows .mixedOrders = true)
    (hB : (Region.noSelect l.toArray && decide (st.length = l.length) && st.all (fun x => decide (x.2 < l.length)) && heldB .any l.toArray st (Array.replicate l.toArray.size false)) = true)
    (hS : S w.drew) (h : wpHeld P l.toArray (NoPanic Q) S (pickL l st) a w.drew) : (Code.region id l.toArray true).wp P Q a w := by
  simp only [Bool.and_eq_true, decide_eq_true_eq] at hB
  obtain ⟨⟨⟨h1, h2⟩, h3⟩, h4⟩ := hB
  refine wp_region_noPanic ?_
  refine wp_region_held_drew (S := S) hm hS (fun _ => ?_)
  have := held_sound (P := P) (md := .any) (Q := NoPanic Q) (S := S) h1 (fun _ _ _ _ _ h => h) st _ a w.drew h3 h4 hS h
  rw [h2] at this
  simpa using this
theorem hd_load {o : Oper} {r : List (Bool × Oper)} {a : Act} {w : World} (v : Value) (hw : Region.wanted o (yielded ops a.tmps) = true) (hy : ∀ w, S w → (execOp a.eval o).run P w = .ok (.value v) w)
    (h : wpHeld P ops Q S r (a.put o.dst v) w) : wpHeld P ops Q S ((true, o) :: r) a w := ⟨v, .inl ⟨hw, hy⟩, h⟩
theorem hd_off {o : Oper} {r : List (Bool × Oper)} {a : Act} {w : World} (hw : Region.wanted o (yielded ops a.tmps) = false)
    (h : wpHeld P ops Q S r (a.put o.dst undef) w) : wpHeld P ops Q S ((true, o) :: r) a w := ⟨undef, .inr ⟨hw, rfl⟩, h⟩
theorem hd_offs {o : Oper} {r : List (Bool × Oper)} {a : Act} {w : World} (hw : Region.wanted o (yielded ops a.tmps) = false) (hS : S w)
    (h : wpHeld P ops Q S r (a.put o.dst undef) w) : wpHeld P ops Q S ((false, o) :: r) a w := by
  unfold wpHeld
  rw [if_neg (by rw [hw]; decide)]
  exact ⟨hS, h⟩
theorem hd_run {o : Oper} {r : List (Bool × Oper)} {a : Act} {w : World} (hw : Region.wanted o (yielded ops a.tmps) = true)
    (h : wpSq P (Then1 (fun a w => wpHeld P ops (NoPanic Q) S r a w)) S [(false, o)] a w) : wpHeld P ops (NoPanic Q) S ((false, o) :: r) a w := by
  unfold wpHeld
  rw [if_pos hw]
  unfold wpSq at h
  exact .inl (Oper.wp_mono2 (fun _ _ h => h) (fun _ _ _ h => h.elim) (fun ⟨_, _, h⟩ => h.elim) h)
theorem hd_done {a : Act} {w : World} (h : Q .normal a w) : wpHeld P ops (NoPanic Q) S [] a w := NoPanic.normal h

/-- 'S' holds behind every operation, as long as number 'm' has not come. -/
def wpAnyT (P : Program) (md : Region.Mode) (ops : Array Oper) (Q : Exit → Act → World → Prop) (S : World → Prop) (m : Nat) : Nat → Array Bool → Act → World → Prop
  | 0, listed, a, w => Region.ready md ops listed = [] ∧ Q .normal a w
  | fuel + 1, listed, a, w =>
    (Region.ready md ops listed = [] → Q .normal a w) ∧
    ∀ i ∈ Region.ready md ops listed, wpOp P ops Q i (fun a' w' => ((listed.setIfInBounds i true).getD m false = false → S w') ∧ wpAnyT P md ops Q S m fuel (listed.setIfInBounds i true) a' w') a w
theorem wpAny_of_T : ∀ (fuel : Nat) (listed : Array Bool) (a : Act) (w : World), wpAnyT P md ops Q S m fuel listed a w → wpAny P md ops Q fuel listed a w
  | 0, _, _, _, h => h
  | fuel + 1, _, _, _, h => ⟨h.1, fun i hi => wpOp_mono (fun a' w' h' => wpAny_of_T fuel _ a' w' h'.2) (h.2 i hi)⟩
def waitsB (md : Region.Mode) (ops : Array Oper) (m i : Nat) : Bool :=
  match ops[m]? with
  | some o => o.after.any fun e => Region.binds md e && e.on == i
  | none => true
/-- A load that number 'm' waits for may be taken first; so may what yields in any world. -/
theorem wpAnyT_first {i : Nat} {oi : Oper} {v : Value} (T : World → Prop) (hi : ops[i]? = some oi) (hsel : ∀ (j : Nat) (o : Oper) cs b, ops[j]? = some o → o.op ≠ .select cs b) (hmi : m ≠ i)
    (hQ : ∀ c a w, Q (.panic c) (a.put oi.dst v) w → Q (.panic c) a w) (hT : (∀ w, T w) ∨ ((∀ w, S w → T w) ∧ waitsB md ops m i = true)) :
    ∀ (fuel : Nat) (listed : Array Bool) (a : Act) (w : World),
      (∀ j oj, ops[j]? = some oj → j ≠ i → listed.getD j true = false → (∀ e ∈ oj.after, Region.binds md e = true → e.on ≠ i) → oi.apart ops oj = true) →
      i ∈ Region.ready md ops listed → YieldsIf P ops T oi v a → (listed.getD m false = false → S w) → ((∀ w, T w) ∨ listed.getD m false = false) →
      wpAnyT P md ops Q S m fuel (listed.setIfInBounds i true) (a.put oi.dst v) w → wpAnyT P md ops Q S m (fuel + 1) listed a w := by
  intro fuel
  have hTw : ∀ (listed : Array Bool) (w : World), (listed.getD m false = false → S w) → ((∀ w, T w) ∨ listed.getD m false = false) → T w := by
    intro listed w hS hm
    rcases hm with h | h
    · exact h w
    · rcases hT with h2 | ⟨h2, _⟩
      · exact h2 w
      · exact h2 w (hS h)
  induction fuel with
  | zero =>
    intro listed a w _ hr hy hS hlm H
    refine ⟨fun h => (by rw [h] at hr; cases hr), fun j hj => ?_⟩
    by_cases hji : j = i
    · subst hji
      refine hy.wpOp hi (hTw listed w hS hlm) ⟨fun hl => hS ?_, H⟩
      rw [getD_set_ne false (Ne.symm hmi)] at hl
      exact hl
    · have := ready_mono hj hji
      rw [H.1] at this
      cases this
  | succ fuel ih =>
    intro listed a w hfree hr hy hS hlm H
    refine ⟨fun h => (by rw [h] at hr; cases hr), fun j hj => ?_⟩
    by_cases hji : j = i
    · subst hji
      refine hy.wpOp hi (hTw listed w hS hlm) ⟨fun hl => hS ?_, H⟩
      rw [getD_set_ne false (Ne.symm hmi)] at hl
      exact hl
    · have h1 := H.2 j (ready_mono hj hji)
      obtain ⟨hjun, oj, hoj, hall⟩ := mem_ready.1 hj
      have hnot : ∀ e ∈ oj.after, Region.binds md e = true → e.on ≠ i := fun e he hb heq => by
        have h1 := hall e he hb
        have h0 := (mem_ready.1 hr).1
        rw [heq] at h1
        rcases Nat.lt_or_ge i listed.size with h' | h'
        · simp [h'] at h0 h1; rw [h0] at h1; cases h1
        · simp [Array.getElem?_eq_none h'] at h1
      have h2 := wpOp_putIf hoj (hfree j oj hoj hji hjun hnot) (fun cs b => hsel i oi cs b hi) (fun cs b => hsel j oj cs b hoj) hQ hy h1
      have hfree' : ∀ k ok, ops[k]? = some ok → k ≠ i → (listed.setIfInBounds j true).getD k true = false →
          (∀ e ∈ ok.after, Region.binds md e = true → e.on ≠ i) → oi.apart ops ok = true := fun k ok hk hki hun hno => by
        refine hfree k ok hk hki ?_ hno
        by_cases hjk : j = k
        · subst hjk; exact hjun
        · rw [getD_set_ne true hjk] at hun; exact hun
      have hlm' : (∀ w, T w) ∨ (listed.setIfInBounds j true).getD m false = false := by
        rcases hlm with h | h
        · exact .inl h
        · rcases hT with h3 | ⟨_, hw⟩
          · exact .inl h3
          · refine .inr ?_
            have hjm : j ≠ m := by
              intro q
              subst q
              unfold waitsB at hw
              rw [hoj] at hw
              obtain ⟨e, he, hb⟩ := Array.any_eq_true'.1 hw
              simp only [Bool.and_eq_true, beq_iff_eq] at hb
              exact hnot e he hb.1 hb.2
            rw [getD_set_ne false hjm]
            exact h
      have hcomm : (listed.setIfInBounds i true).setIfInBounds j true = (listed.setIfInBounds j true).setIfInBounds i true := (Array.setIfInBounds_comm _ _ (Ne.symm hji))
      refine wpOp_mono (fun a' w' h3 => ?_) h2
      obtain ⟨k1, k2, k3⟩ := h3
      rw [hcomm] at k2 k3
      have hS' : (listed.setIfInBounds j true).getD m false = false → S w' := fun q => k2 (by rw [getD_set_ne false (Ne.symm hmi)]; exact q)
      exact ⟨hS', ih (listed.setIfInBounds j true) a' w' hfree' (ready_mono hr (Ne.symm hji)) k1 hS' hlm' k3⟩
/-- The operations in this order: 0 what yields in any world, 1 a load under 'S', 2 what is run while 'S' holds, 3 what is run later. -/
def wpTg (P : Program) (Q : Exit → Act → World → Prop) (S : World → Prop) : List (Nat × Oper) → Act → World → Prop
  | [], a, w => Q .normal a w
  | (0, o) :: r, a, w => ∃ v, (∀ w, (execOp a.eval o).run P w = .ok (.value v) w) ∧ wpTg P Q S r (a.put o.dst v) w
  | (1, o) :: r, a, w => ∃ v, (∀ w, S w → (execOp a.eval o).run P w = .ok (.value v) w) ∧ wpTg P Q S r (a.put o.dst v) w
  | (2, o) :: r, a, w => o.wp P a w (fun a' w' => S w' ∧ wpTg P Q S r a' w') (NoPanic Q)
  | (_, o) :: r, a, w => o.wp P a w (fun a' w' => wpTg P Q S r a' w') (NoPanic Q)
def tgB (md : Region.Mode) (ops : Array Oper) (m : Nat) : List (Nat × Nat) → Array Bool → Bool
  | [], listed => (Region.ready md ops listed).isEmpty
  | (0, i) :: r, listed => (Region.ready md ops listed).contains i && Region.free md ops listed i && decide (m ≠ i) && tgB md ops m r (listed.setIfInBounds i true)
  | (1, i) :: r, listed => (Region.ready md ops listed).contains i && Region.free md ops listed i && decide (m ≠ i) && waitsB md ops m i && !listed.getD m false && tgB md ops m r (listed.setIfInBounds i true)
  | (2, i) :: r, listed => decide (Region.ready md ops listed = [i]) && tgB md ops m r (listed.setIfInBounds i true)
  | (_, i) :: r, listed => decide (Region.ready md ops listed = [i]) && (listed.setIfInBounds i true).getD m false && tgB md ops m r (listed.setIfInBounds i true)
def pickT (l : List Oper) : List (Nat × Nat) → List (Nat × Oper)
  | [] => []
  | (b, i) :: r => match l[i]? with
    | some o => (b, o) :: pickT l r
    | none => pickT l r
theorem tg_sound {l : List Oper} (hns : Region.noSelect l.toArray = true) :
    ∀ (st : List (Nat × Nat)) (listed : Array Bool) (a : Act) (w : World), st.all (fun x => decide (x.2 < l.length)) = true → (pickT l st).all (fun x => x.2.guard.isNone) = true → tgB md l.toArray m st listed = true → (listed.getD m false = false → S w) →
      wpTg P Q S (pickT l st) a w → wpAnyT P md l.toArray (NoPanic Q) S m st.length listed a w
  | [], listed, a, w, _, _, hB, _, h => ⟨by simpa [tgB] using hB, NoPanic.normal h⟩
  | (0, i) :: st, listed, a, w, hlt, hg, hB, hS, h => by
    simp only [List.all_cons, Bool.and_eq_true, decide_eq_true_eq] at hlt
    simp only [tgB, Bool.and_eq_true, decide_eq_true_eq] at hB
    have hi : l[i]? = some l[i] := List.getElem?_eq_getElem hlt.1
    simp only [pickT, hi, List.all_cons, Bool.and_eq_true, Option.isNone_iff_eq_none] at hg
    simp only [pickT, hi, wpTg] at h
    obtain ⟨v, hy, h⟩ := h
    exact wpAnyT_first (fun _ => True) (i := i) (oi := l[i]) (v := v) (by simp [hi]) (Region.noSelect_spec hns) hB.1.2 (fun _ _ _ h => h) (.inl fun _ => trivial) st.length listed a w
      (Region.free_spec (by simp [hi]) hB.1.1.2) (by simpa using hB.1.1.1) (.inl ⟨by simp [Region.wanted, hg.1], fun w _ => hy w⟩) hS (.inl fun _ => trivial)
      (tg_sound hns st _ _ _ hlt.2 hg.2 hB.2 (fun q => hS (by rw [getD_set_ne false (Ne.symm hB.1.2)] at q; exact q)) h)
  | (1, i) :: st, listed, a, w, hlt, hg, hB, hS, h => by
    simp only [List.all_cons, Bool.and_eq_true, decide_eq_true_eq] at hlt
    simp only [tgB, Bool.and_eq_true, decide_eq_true_eq, Bool.not_eq_true'] at hB
    have hi : l[i]? = some l[i] := List.getElem?_eq_getElem hlt.1
    simp only [pickT, hi, List.all_cons, Bool.and_eq_true, Option.isNone_iff_eq_none] at hg
    simp only [pickT, hi, wpTg] at h
    obtain ⟨v, hy, h⟩ := h
    obtain ⟨⟨⟨⟨⟨b1, b2⟩, b3⟩, b4⟩, b5⟩, b6⟩ := hB
    exact wpAnyT_first S (i := i) (oi := l[i]) (v := v) (by simp [hi]) (Region.noSelect_spec hns) b3 (fun _ _ _ h => h) (.inr ⟨fun _ h => h, b4⟩) st.length listed a w
      (Region.free_spec (by simp [hi]) b2) (by simpa using b1) (.inl ⟨by simp [Region.wanted, hg.1], hy⟩) hS (.inr b5)
      (tg_sound hns st _ _ _ hlt.2 hg.2 b6 (fun q => hS (by rw [getD_set_ne false (Ne.symm b3)] at q; exact q)) h)
  | (2, i) :: st, listed, a, w, hlt, hg, hB, hS, h => by
    simp only [List.all_cons, Bool.and_eq_true, decide_eq_true_eq] at hlt
    simp only [tgB, Bool.and_eq_true, decide_eq_true_eq] at hB
    have hi : l[i]? = some l[i] := List.getElem?_eq_getElem hlt.1
    simp only [pickT, hi, List.all_cons, Bool.and_eq_true, Option.isNone_iff_eq_none] at hg
    simp only [pickT, hi, wpTg] at h
    refine ⟨fun q => (by rw [hB.1] at q; cases q), fun j hj => ?_⟩
    rw [hB.1] at hj
    have hj' : j = i := by simpa using hj
    subst hj'
    have hi' : l.toArray[j]? = some l[j] := by simp [hi]
    have hw : wpOp P l.toArray (NoPanic Q) j (fun a' w' => S w' ∧ wpTg P Q S (pickT l st) a' w') a w := by
      unfold wpOp
      simp only [hi']
      rw [if_pos (by simp [Region.wanted, hg.1])]
      exact .inl h
    exact wpOp_mono (fun a' w' h' => ⟨fun _ => h'.1, tg_sound hns st _ _ _ hlt.2 hg.2 hB.2 (fun _ => h'.1) h'.2⟩) hw
  | (n + 3, i) :: st, listed, a, w, hlt, hg, hB, hS, h => by
    simp only [List.all_cons, Bool.and_eq_true, decide_eq_true_eq] at hlt
    simp only [tgB, Bool.and_eq_true, decide_eq_true_eq] at hB
    have hi : l[i]? = some l[i] := List.getElem?_eq_getElem hlt.1
    simp only [pickT, hi, List.all_cons, Bool.and_eq_true, Option.isNone_iff_eq_none] at hg
    simp only [pickT, hi, wpTg] at h
    refine ⟨fun q => (by rw [hB.1.1] at q; cases q), fun j hj => ?_⟩
    rw [hB.1.1] at hj
    have hj' : j = i := by simpa using hj
    subst hj'
    have hi' : l.toArray[j]? = some l[j] := by simp [hi]
    have hw : wpOp P l.toArray (NoPanic Q) j (fun a' w' => wpTg P Q S (pickT l st) a' w') a w := by
      unfold wpOp
      simp only [hi']
      rw [if_pos (by simp [Region.wanted, hg.1])]
      exact .inl h
    have hno : ∀ w', ((listed.setIfInBounds j true).getD m false = false → S w') := fun w' q => by rw [hB.1.2] at q; cases q
    exact wpOp_mono (fun a' w' h' => ⟨hno w', tg_sound hns st _ _ _ hlt.2 hg.2 hB.2 (hno w') h'⟩) hw
/-- The beginning. -/
theorem wp_region_tg {id : Nat} {a : Act} {w : World} {l : List Oper} (m : Nat) (st : List (Nat × Nat)) (hm : P.follows .mixedOrders = true)
    (hB : (Region.noSelect l.toArray && decide (st.length = l.length) && st.all (fun x => decide (x.2 < l.length)) && (pickT l st).all (fun x => x.2.guard.isNone) && tgB .any l.toArray m st (Array.replicate l.toArray.size false)) = true)
    (hS : S w.drew) (h : wpTg P Q S (pickT l st) a w.drew) : (Code.region id l.toArray true).wp P Q a w := by
  simp only [Bool.and_eq_true, decide_eq_true_eq] at hB
  obtain ⟨⟨⟨⟨h1, h2⟩, h3⟩, h5⟩, h4⟩ := hB
  refine wp_region_noPanic ?_
  refine wp_region_any hm (wpAny_of_T (m := m) (S := S) _ _ _ _ ?_)
  have := tg_sound (P := P) (md := .any) (Q := Q) (S := S) (m := m) h1 st _ a w.drew h3 h5 h4 (fun _ => hS) h
  rw [h2] at this
  simpa using this
/-- Its steps: those of a list in order, where 'S' is asked or is not. -/
theorem tg_pure {o : Oper} {r : List (Nat × Oper)} {a : Act} {w : World} (v : Value) (hy : ∀ w, (execOp a.eval o).run P w = .ok (.value v) w) (h : wpTg P Q S r (a.put o.dst v) w) : wpTg P Q S ((0, o) :: r) a w := ⟨v, hy, h⟩
theorem tg_load {o : Oper} {r : List (Nat × Oper)} {a : Act} {w : World} (v : Value) (hy : ∀ w, S w → (execOp a.eval o).run P w = .ok (.value v) w) (h : wpTg P Q S r (a.put o.dst v) w) : wpTg P Q S ((1, o) :: r) a w := ⟨v, hy, h⟩
theorem tg_run {o : Oper} {r : List (Nat × Oper)} {a : Act} {w : World} (h : wpSq P (Then1 (fun a w => wpTg P Q S r a w)) S [(false, o)] a w) : wpTg P Q S ((2, o) :: r) a w := by
  unfold wpTg
  unfold wpSq at h
  exact Oper.wp_mono2 (fun _ _ h => h) (fun _ _ _ h => h.elim) (fun ⟨_, _, h⟩ => h.elim) h
theorem tg_late {o : Oper} {r : List (Nat × Oper)} {a : Act} {w : World} (h : wpSq P (Then1 (fun a w => wpTg P Q S r a w)) (fun _ => True) [(false, o)] a w) : wpTg P Q S ((3, o) :: r) a w := by
  unfold wpTg
  unfold wpSq at h
  exact Oper.wp_mono2 (fun _ _ h => h.2) (fun _ _ _ h => h.elim) (fun ⟨_, _, h⟩ => h.elim) h
theorem tg_done {a : Act} {w : World} (h : Q .normal a w) : wpTg P Q S [] a w := h
end
end Go.Proofs.YtmhhcfceikcfbaaGreat
