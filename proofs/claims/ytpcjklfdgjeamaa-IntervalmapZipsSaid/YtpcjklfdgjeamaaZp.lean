/- Zip, plainly: the runs of two lists' pairs. -/
import Derived.Test.YtpcjklfdgjeamaaPl3
namespace Go.Proofs.Ytpcjklfdgjeamaa

abbrev Pr := Int × Int × Int × Int
abbrev IP := Int × Int
def addP (out : List Pr) (n : Int) (v : IP) (q : Int) : List Pr :=
  match out.getLast? with
  | some r => if r.2.2 = v then out.dropLast ++ [(r.1, r.2.1 + n, r.2.2)] else out ++ [(q, q + n, v)]
  | none => out ++ [(q, q + n, v)]
theorem addP_nil (n : Int) (v : IP) (q : Int) : addP [] n v q = [(q, q + n, v)] := rfl
theorem addP_snoc (o : List Pr) (r : Pr) (n : Int) (v : IP) (q : Int) : addP (o ++ [r]) n v q = if r.2.2 = v then o ++ [(r.1, r.2.1 + n, r.2.2)] else o ++ [r] ++ [(q, q + n, v)] := by
  simp [addP]
theorem addP_add (out : List Pr) (n m : Int) (v : IP) (q : Int) : addP (addP out n v q) m v (q + n) = addP out (n + m) v q := by
  rcases nil_or_snoc out with rfl | ⟨o, r, rfl⟩
  · rw [addP_nil, addP_nil]
    have := addP_snoc [] (q, q + n, v) m v (q + n)
    rw [List.nil_append] at this
    rw [this, if_pos rfl]
    simp; omega
  · rw [addP_snoc, addP_snoc]
    by_cases h : r.2.2 = v
    · rw [if_pos h, if_pos h, addP_snoc, if_pos h]
      simp; omega
    · rw [if_neg h, if_neg h, addP_snoc, if_pos rfl]
      simp; omega
def zipF : List IP → List Pr → Int → List Pr
  | [], out, _ => out
  | v :: l, out, q => zipF l (addP out 1 v q) (q + 1)
theorem zipF_rep (v : IP) (l : List IP) : ∀ (n : Nat) (out : List Pr) (q : Int), zipF (List.replicate (n + 1) v ++ l) out q = zipF l (addP out (n + 1 : Nat) v q) (q + (n + 1 : Nat))
  | 0, out, q => rfl
  | n + 1, out, q => by
    rw [List.replicate_succ, List.cons_append]
    show zipF (List.replicate (n + 1) v ++ l) (addP out 1 v q) (q + 1) = _
    rw [zipF_rep v l n, addP_add]
    congr 1
    · congr 1; omega
    · omega
/-- The pairs of two lists. -/
def pairsOf (l k : List Int) : List Pr := zipF (l.zip k) [] 0

theorem rep_split (n : Nat) (a b : Int) (A B : List Int) (i j : Nat) (hi : n ≤ i) (hj : n ≤ j) :
    (List.replicate i a ++ A).zip (List.replicate j b ++ B) = List.replicate n (a, b) ++ (List.replicate (i - n) a ++ A).zip (List.replicate (j - n) b ++ B) := by
  obtain ⟨i, rfl⟩ := Nat.exists_eq_add_of_le hi
  obtain ⟨j, rfl⟩ := Nat.exists_eq_add_of_le hj
  rw [← List.replicate_append_replicate, ← List.replicate_append_replicate, List.append_assoc, List.append_assoc, List.zip_append (by simp)]
  simp [List.zip_replicate]

/-- Where a walk over the runs of two lists stands. -/
def ZInv (A B : List Rn) (out Z : List Pr) : Prop :=
  (A = [] ∧ B = [] ∧ out = Z) ∨ ∃ x A' y B' q, A = x :: A' ∧ B = y :: B' ∧ q = max x.1 y.1 ∧ q < x.2.1 ∧ q < y.2.1 ∧ Cont x.2.1 A' ∧ Cont y.2.1 B' ∧ endOf x.2.1 A' = endOf y.2.1 B' ∧
    Dist (some x.2.2) A' ∧ Dist (some y.2.2) B' ∧ (∀ o r, out = o ++ [r] → r.2.2 ≠ (x.2.2, y.2.2)) ∧
    zipF ((List.replicate (x.2.1 - q).toNat x.2.2 ++ xp A').zip (List.replicate (y.2.1 - q).toNat y.2.2 ++ xp B')) out q = Z

theorem snoc_inj {α : Type} {o o' : List α} {r r' : α} (h : o ++ [r] = o' ++ [r']) : r = r' := by
  have := congrArg List.getLast? h
  simpa using this

theorem zstep {x y : Rn} {A' B' : List Rn} {out Z : List Pr} (h : ZInv (x :: A') (y :: B') out Z) {t : Int} (ht : t = min x.2.1 y.2.1) :
    ZInv (if x.2.1 = t then A' else x :: A') (if y.2.1 = t then B' else y :: B') (out ++ [(max x.1 y.1, t, x.2.2, y.2.2)]) Z := by
  rcases h with ⟨h, _⟩ | ⟨x0, A0, y0, B0, q, e1, e2, hq, h1, h2, h3, h4, h5, h6, h7, h8, h9⟩
  · cases h
  injection e1 with ex eA
  injection e2 with ey eB
  subst ex eA ey eB
  have hn : ∃ n : Nat, (t - q).toNat = n + 1 := ⟨(t - q).toNat - 1, by omega⟩
  obtain ⟨n, hn⟩ := hn
  rw [rep_split (n + 1) _ _ _ _ _ _ (by omega) (by omega), zipF_rep] at h9
  have hadd : addP out ((n + 1 : Nat) : Int) (x.2.2, y.2.2) q = out ++ [(max x.1 y.1, t, x.2.2, y.2.2)] := by
    have e : q + ((n + 1 : Nat) : Int) = t := by omega
    rcases nil_or_snoc out with rfl | ⟨o, r, rfl⟩
    · rw [addP_nil, e, ← hq]; rfl
    · rw [addP_snoc, if_neg (h8 o r rfl), e, ← hq]
  have hqt : q + ((n + 1 : Nat) : Int) = t := by omega
  rw [hadd, hqt] at h9
  have ei : (x.2.1 - q).toNat - (n + 1) = (x.2.1 - t).toNat := by omega
  have ej : (y.2.1 - q).toNat - (n + 1) = (y.2.1 - t).toNat := by omega
  rw [ei, ej] at h9
  obtain ⟨O, hO⟩ : ∃ O, O = out ++ [(max x.1 y.1, t, x.2.2, y.2.2)] := ⟨_, rfl⟩
  rw [← hO] at h9 ⊢
  have hlast : ∀ o r, O = o ++ [r] → r.2.2 = (x.2.2, y.2.2) := fun o r e => by
    rw [hO] at e
    rw [← snoc_inj e]
  rcases Int.lt_trichotomy x.2.1 y.2.1 with hlt | heq | hgt
  · have htx : x.2.1 = t := by omega
    have hty : y.2.1 ≠ t := by omega
    rw [if_pos htx, if_neg hty]
    cases A' with
    | nil =>
      have := cont_end B' _ h4
      simp only [endOf] at h5
      omega
    | cons x' A'' =>
      obtain ⟨c1, c2, c3⟩ := h3
      obtain ⟨d1, d2⟩ := h6
      refine .inr ⟨x', A'', y, B', t, rfl, rfl, ?_, by omega, by omega, c3, h4, h5, d2, h7, ?_, ?_⟩
      · rw [c1, htx]; omega
      · intro o r e
        rw [hlast o r e]
        intro e'
        injection e' with e' _
        exact d1 (by rw [e'])
      · rw [← h9, xp_cons]
        have e1 : (x.2.1 - t).toNat = 0 := by omega
        have e2 : (x'.2.1 - t).toNat = wdt x' := by unfold wdt; omega
        rw [e1, e2]; rfl
  · have htx : x.2.1 = t := by omega
    have hty : y.2.1 = t := by omega
    rw [if_pos htx, if_pos hty]
    have e1 : (x.2.1 - t).toNat = 0 := by omega
    have e2 : (y.2.1 - t).toNat = 0 := by omega
    rw [e1, e2] at h9
    cases A' with
    | nil =>
      cases B' with
      | nil => exact .inl ⟨rfl, rfl, h9⟩
      | cons y' B'' =>
        obtain ⟨c1, c2, c3⟩ := h4
        have := cont_end B'' _ c3
        simp only [endOf] at h5
        omega
    | cons x' A'' =>
      obtain ⟨c1, c2, c3⟩ := h3
      obtain ⟨d1, d2⟩ := h6
      cases B' with
      | nil =>
        have := cont_end A'' _ c3
        simp only [endOf] at h5
        omega
      | cons y' B'' =>
        obtain ⟨c1', c2', c3'⟩ := h4
        obtain ⟨d1', d2'⟩ := h7
        refine .inr ⟨x', A'', y', B'', t, rfl, rfl, by omega, by omega, by omega, c3, c3', h5, d2, d2', ?_, ?_⟩
        · intro o r e
          rw [hlast o r e]
          intro e'
          injection e' with e' _
          exact d1 (by rw [e'])
        · rw [← h9, xp_cons, xp_cons]
          have e1 : (x'.2.1 - t).toNat = wdt x' := by unfold wdt; omega
          have e2 : (y'.2.1 - t).toNat = wdt y' := by unfold wdt; omega
          rw [e1, e2]; rfl
  · have htx : x.2.1 ≠ t := by omega
    have hty : y.2.1 = t := by omega
    rw [if_neg htx, if_pos hty]
    cases B' with
    | nil =>
      have := cont_end A' _ h3
      simp only [endOf] at h5
      omega
    | cons y' B'' =>
      obtain ⟨c1, c2, c3⟩ := h4
      obtain ⟨d1, d2⟩ := h7
      refine .inr ⟨x, A', y', B'', t, rfl, rfl, ?_, by omega, by omega, h3, c3, h5, h6, d2, ?_, ?_⟩
      · rw [c1, hty]; omega
      · intro o r e
        rw [hlast o r e]
        intro e'
        injection e' with _ e'
        exact d1 (by rw [e'])
      · rw [← h9, xp_cons]
        have e1 : (y.2.1 - t).toNat = 0 := by omega
        have e2 : (y'.2.1 - t).toNat = wdt y' := by unfold wdt; omega
        rw [e1, e2]; rfl

theorem zstart (l k : List Int) (h : l.length = k.length) : ZInv (runsOf l) (runsOf k) [] (pairsOf l k) := by
  obtain ⟨a1, a2, a3⟩ := runs_ok l
  obtain ⟨b1, b2, b3⟩ := runs_ok k
  have da := runs_dist l
  have db := runs_dist k
  obtain ⟨R, hR⟩ : ∃ R, R = runsOf l := ⟨_, rfl⟩
  obtain ⟨S, hS⟩ : ∃ S, S = runsOf k := ⟨_, rfl⟩
  rw [← hR] at a1 a2 a3 da ⊢
  rw [← hS] at b1 b2 b3 db ⊢
  cases R with
  | nil =>
    cases S with
    | nil =>
      refine .inl ⟨rfl, rfl, ?_⟩
      rw [← a3]; rfl
    | cons y S =>
      obtain ⟨c1, c2, c3⟩ := b1
      have := cont_end S _ c3
      simp only [endOf] at a2 b2
      omega
  | cons x R =>
    obtain ⟨c1, c2, c3⟩ := a1
    cases S with
    | nil =>
      have := cont_end R _ c3
      simp only [endOf] at a2 b2
      omega
    | cons y S =>
      obtain ⟨c1', c2', c3'⟩ := b1
      simp only [endOf] at a2 b2
      refine .inr ⟨x, R, y, S, 0, rfl, rfl, by omega, by omega, by omega, c3, c3', by omega, da.2, db.2, ?_, ?_⟩
      · intro o r e
        have := congrArg List.length e
        simp at this
      · unfold pairsOf
        rw [← a3, ← b3, xp_cons, xp_cons]
        have e1 : (x.2.1 - 0).toNat = wdt x := by unfold wdt; omega
        have e2 : (y.2.1 - 0).toNat = wdt y := by unfold wdt; omega
        rw [e1, e2]
theorem zend {B : List Rn} {out Z : List Pr} (h : ZInv [] B out Z) : out = Z := by
  rcases h with ⟨_, _, h⟩ | ⟨_, _, _, _, _, e, _⟩
  · exact h
  · cases e
theorem zmid {x : Rn} {A B : List Rn} {out Z : List Pr} (h : ZInv (x :: A) B out Z) : ∃ y B', B = y :: B' := by
  rcases h with ⟨h, _⟩ | ⟨_, _, y, B', _, _, e, _⟩
  · cases h
  · exact ⟨y, B', e⟩

/-- How the reference goes on: the pairs behind the first j offsets. -/
theorem zipF_drop (Z : List IP) (j : Nat) (h : j < Z.length) (out : List Pr) (q : Int) : zipF (Z.drop j) out q = zipF (Z.drop (j + 1)) (addP out 1 Z[j] q) (q + 1) := by
  rw [List.drop_eq_getElem_cons h]; rfl
end Go.Proofs.Ytpcjklfdgjeamaa
