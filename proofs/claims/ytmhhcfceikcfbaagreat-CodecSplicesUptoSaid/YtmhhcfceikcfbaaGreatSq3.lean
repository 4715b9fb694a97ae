/- A drawn region whose calls have one order, but for some operations that may come sooner or later: a tree of orders. -/
import Derived.Test.YtmhhcfceikcfbaaGreatSq2
namespace Go.Proofs.YtmhhcfceikcfbaaGreat
open Go

inductive Tr where
  | done
  | ld (i : Nat) (t : Tr)
  | run (i : Nat) (t : Tr)
  | br (i : Nat) (t : Tr) (j : Nat) (u : Tr)
inductive TrO where
  | done
  | ld (o : Oper) (t : TrO)
  | run (o : Oper) (t : TrO)
  | br (o : Oper) (t : TrO) (o' : Oper) (u : TrO)
def Tr.size : Tr → Nat
  | .done => 0
  | .ld _ t => t.size + 1
  | .run _ t => t.size + 1
  | .br _ t _ _ => t.size + 1
def TrO.plain : TrO → Bool
  | .done => true
  | .ld o t => o.guard.isNone && t.plain
  | .run o t => o.guard.isNone && t.plain
  | .br o t o' u => o.guard.isNone && t.plain && o'.guard.isNone && u.plain
def Tr.pick (l : List Oper) : Tr → TrO
  | .done => .done
  | .ld i t => match l[i]? with
    | some o => .ld o (t.pick l)
    | none => .done
  | .run i t => match l[i]? with
    | some o => .run o (t.pick l)
    | none => .done
  | .br i t j u => match l[i]?, l[j]? with
    | some o, some o' => .br o (t.pick l) o' (u.pick l)
    | _, _ => .done
def Tr.ok (md : Region.Mode) (ops : Array Oper) : Tr → Array Bool → Bool
  | .done, listed => (Region.ready md ops listed).isEmpty
  | .ld i t, listed => decide (i < ops.size) && (Region.ready md ops listed).contains i && Region.free md ops listed i && t.ok md ops (listed.setIfInBounds i true)
  | .run i t, listed => decide (i < ops.size) && decide (Region.ready md ops listed = [i]) && t.ok md ops (listed.setIfInBounds i true)
  | .br i t j u, listed => decide (i < ops.size) && decide (j < ops.size) && decide (t.size = u.size) && decide (Region.ready md ops listed = [i, j]) && t.ok md ops (listed.setIfInBounds i true) && u.ok md ops (listed.setIfInBounds j true)
section
variable {P : Program} {Q : Exit → Act → World → Prop} {S : World → Prop} {md : Region.Mode}
def wpTr (P : Program) (Q : Exit → Act → World → Prop) (S : World → Prop) : TrO → Act → World → Prop
  | .done, a, w => Q .normal a w
  | .ld o t, a, w => ∃ v, (∀ w, S w → (execOp a.eval o).run P w = .ok (.value v) w) ∧ wpTr P Q S t (a.put o.dst v) w
  | .run o t, a, w => o.wp P a w (fun a' w' => S w' ∧ wpTr P Q S t a' w') (NoPanic Q)
  | .br o t o' u, a, w => o.wp P a w (fun a' w' => S w' ∧ wpTr P Q S t a' w') (NoPanic Q) ∧ o'.wp P a w (fun a' w' => S w' ∧ wpTr P Q S u a' w') (NoPanic Q)
theorem tr_sound {l : List Oper} (hns : Region.noSelect l.toArray = true) : ∀ (t : Tr) (listed : Array Bool) (a : Act) (w : World), (t.pick l).plain = true → t.ok md l.toArray listed = true → S w →
    wpTr P Q S (t.pick l) a w → wpAnyH P md l.toArray (NoPanic Q) S t.size listed a w
  | .done, listed, a, w, _, hB, _, h => ⟨by simpa [Tr.ok] using hB, NoPanic.normal h⟩
  | .ld i t, listed, a, w, hg, hB, hS, h => by
    simp only [Tr.ok, Bool.and_eq_true, decide_eq_true_eq] at hB
    obtain ⟨⟨⟨hlt, h1⟩, h2⟩, h3⟩ := hB
    have hi : l[i]? = some (l[i]'(by simpa using hlt)) := List.getElem?_eq_getElem (by simpa using hlt)
    simp only [Tr.pick, hi, TrO.plain, Bool.and_eq_true, Option.isNone_iff_eq_none] at hg
    simp only [Tr.pick, hi, wpTr] at h
    obtain ⟨v, hy, h⟩ := h
    exact wpAnyH_take (i := i) (oi := l[i]'(by simpa using hlt)) (v := v) (by simp [hi]) hns h2 h1 (fun _ _ _ h => h) (.inl ⟨by simp [Region.wanted, hg.1], hy⟩) hS (tr_sound hns t _ _ _ hg.2 h3 hS h)
  | .run i t, listed, a, w, hg, hB, hS, h => by
    simp only [Tr.ok, Bool.and_eq_true, decide_eq_true_eq] at hB
    obtain ⟨⟨hlt, h1⟩, h3⟩ := hB
    have hi : l[i]? = some (l[i]'(by simpa using hlt)) := List.getElem?_eq_getElem (by simpa using hlt)
    simp only [Tr.pick, hi, TrO.plain, Bool.and_eq_true, Option.isNone_iff_eq_none] at hg
    simp only [Tr.pick, hi, wpTr] at h
    refine wpAnyH_all h1 (by simp) ?_
    intro k hk
    have hk' : k = i := by simpa using hk
    subst hk'
    have hi' : l.toArray[k]? = some (l[k]'(by simpa using hlt)) := by simp [hi]
    have hw : wpOp P l.toArray (NoPanic Q) k (fun a' w' => S w' ∧ wpTr P Q S (t.pick l) a' w') a w := by
      unfold wpOp
      simp only [hi']
      rw [if_pos (by simp [Region.wanted, hg.1])]
      exact .inl h
    exact wpOp_mono (fun a' w' h' => ⟨h'.1, tr_sound hns t _ _ _ hg.2 h3 h'.1 h'.2⟩) hw
  | .br i t j u, listed, a, w, hg, hB, hS, h => by
    simp only [Tr.ok, Bool.and_eq_true, decide_eq_true_eq] at hB
    obtain ⟨⟨⟨⟨⟨hlt, hlt2⟩, hsz⟩, h1⟩, h3⟩, h4⟩ := hB
    have hi : l[i]? = some (l[i]'(by simpa using hlt)) := List.getElem?_eq_getElem (by simpa using hlt)
    have hj : l[j]? = some (l[j]'(by simpa using hlt2)) := List.getElem?_eq_getElem (by simpa using hlt2)
    simp only [Tr.pick, hi, hj, TrO.plain, Bool.and_eq_true, Option.isNone_iff_eq_none] at hg
    simp only [Tr.pick, hi, hj, wpTr] at h
    obtain ⟨⟨⟨g1, g2⟩, g3⟩, g4⟩ := hg
    refine wpAnyH_all h1 (by simp) ?_
    intro k hk
    have hk' : k = i ∨ k = j := by simpa using hk
    rcases hk' with rfl | rfl
    · have hi' : l.toArray[k]? = some (l[k]'(by simpa using hlt)) := by simp [hi]
      have hw : wpOp P l.toArray (NoPanic Q) k (fun a' w' => S w' ∧ wpTr P Q S (t.pick l) a' w') a w := by
        unfold wpOp
        simp only [hi']
        rw [if_pos (by simp [Region.wanted, g1])]
        exact .inl h.1
      exact wpOp_mono (fun a' w' h' => ⟨h'.1, tr_sound hns t _ _ _ g2 h3 h'.1 h'.2⟩) hw
    · have hi' : l.toArray[k]? = some (l[k]'(by simpa using hlt2)) := by simp [hj]
      have hw : wpOp P l.toArray (NoPanic Q) k (fun a' w' => S w' ∧ wpTr P Q S (u.pick l) a' w') a w := by
        unfold wpOp
        simp only [hi']
        rw [if_pos (by simp [Region.wanted, g3])]
        exact .inl h.2
      rw [hsz]
      exact wpOp_mono (fun a' w' h' => ⟨h'.1, tr_sound hns u _ _ _ g4 h4 h'.1 h'.2⟩) hw
/-- The beginning. -/
theorem wp_region_tr {id : Nat} {a : Act} {w : World} {l : List Oper} (t : Tr) (hm : P.follows .mixedOrders = true)
    (hB : (Region.noSelect l.toArray && decide (t.size = l.length) && (t.pick l).plain && t.ok .any l.toArray (Array.replicate l.toArray.size false)) = true)
    (hS : S w.drew) (h : wpTr P Q S (t.pick l) a w.drew) : (Code.region id l.toArray true).wp P Q a w := by
  simp only [Bool.and_eq_true, decide_eq_true_eq] at hB
  obtain ⟨⟨⟨h1, h2⟩, h5⟩, h4⟩ := hB
  refine wp_region_noPanic ?_
  refine wp_region_held_drew (S := S) hm hS (fun _ => ?_)
  have := tr_sound (P := P) (md := .any) (Q := Q) (S := S) h1 t _ a w.drew h5 h4 hS h
  rw [h2] at this
  simpa using this
theorem tr_load {o : Oper} {r : TrO} {a : Act} {w : World} (v : Value) (hy : ∀ w, S w → (execOp a.eval o).run P w = .ok (.value v) w) (h : wpTr P Q S r (a.put o.dst v) w) : wpTr P Q S (.ld o r) a w := ⟨v, hy, h⟩
theorem tr_run {o : Oper} {r : TrO} {a : Act} {w : World} (h : wpSq P (Then1 (fun a w => wpTr P Q S r a w)) S [(false, o)] a w) : wpTr P Q S (.run o r) a w := by
  unfold wpTr
  unfold wpSq at h
  exact Oper.wp_mono2 (fun _ _ h => h) (fun _ _ _ h => h.elim) (fun ⟨_, _, h⟩ => h.elim) h
theorem tr_br {o o' : Oper} {r r' : TrO} {a : Act} {w : World} (h : wpSq P (Then1 (fun a w => wpTr P Q S r a w)) S [(false, o)] a w) (h' : wpSq P (Then1 (fun a w => wpTr P Q S r' a w)) S [(false, o')] a w) : wpTr P Q S (.br o r o' r') a w := by
  unfold wpTr
  unfold wpSq at h h'
  exact ⟨Oper.wp_mono2 (fun _ _ h => h) (fun _ _ _ h => h.elim) (fun ⟨_, _, h⟩ => h.elim) h, Oper.wp_mono2 (fun _ _ h => h) (fun _ _ _ h => h.elim) (fun ⟨_, _, h⟩ => h.elim) h'⟩
theorem tr_done {a : Act} {w : World} (h : Q .normal a w) : wpTr P Q S .done a w := h
end
end Go.Proofs.YtmhhcfceikcfbaaGreat
