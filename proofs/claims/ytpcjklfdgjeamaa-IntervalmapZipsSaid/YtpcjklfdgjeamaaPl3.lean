/- The plain side of what is asked of a map: the value at an offset, the next run, the next offset with a value, totals. -/
import Derived.Test.YtpcjklfdgjeamaaPl2
namespace Go.Proofs.Ytpcjklfdgjeamaa

/-- Neighbours have different values. -/
def Dist : Option Int → List Rn → Prop
  | _, [] => True
  | p, r :: R => p ≠ some r.2.2 ∧ Dist (some r.2.2) R
def lastV : Option Int → List Rn → Option Int
  | p, [] => p
  | _, r :: R => lastV (some r.2.2) R
theorem dist_append : ∀ (A B : List Rn) (p : Option Int), Dist p (A ++ B) ↔ Dist p A ∧ Dist (lastV p A) B
  | [], B, p => by simp [Dist, lastV]
  | r :: A, B, p => by
    show (p ≠ some r.2.2 ∧ Dist (some r.2.2) (A ++ B)) ↔ (p ≠ some r.2.2 ∧ Dist (some r.2.2) A) ∧ _
    rw [dist_append A B]
    simp only [lastV, and_assoc]
theorem addR_dist {out : List Rn} {n v q : Int} (h : Dist none out) : Dist none (addR out n v q) := by
  rcases nil_or_snoc out with rfl | ⟨o, r, rfl⟩
  · rw [addR_nil]; exact ⟨by simp, trivial⟩
  · rw [addR_snoc]
    rw [dist_append] at h
    by_cases hv : r.2.2 = v
    · rw [if_pos hv]
      exact (dist_append _ _ _).2 ⟨h.1, h.2.1, trivial⟩
    · rw [if_neg hv]
      refine (dist_append _ _ _).2 ⟨(dist_append _ _ _).2 h, ?_, trivial⟩
      have hl : ∀ (o : List Rn) (p : Option Int), lastV p (o ++ [r]) = some r.2.2 := fun o => by
        induction o with
        | nil => intro p; rfl
        | cons u o ih => intro p; exact ih _
      rw [hl]
      simpa using hv
theorem runsF_dist : ∀ (l : List Int) (out : List Rn) (q : Int), Dist none out → Dist none (runsF l out q)
  | [], _, _, h => h
  | _ :: l, _, _, h => runsF_dist l _ _ (addR_dist h)
theorem runs_dist (l : List Int) : Dist none (runsOf l) := runsF_dist l [] 0 trivial

/-- The next run's beginning, by the values. -/
def nxt : Option Int → List Int → Int → Int → Int
  | _, [], _, _ => -1
  | p, v :: l, i, o => if o ≤ i ∧ p ≠ some v then i else nxt (some v) l (i + 1) o
theorem nxt_rep (v : Int) (l : List Int) (o : Int) : ∀ (k : Nat) (i : Int), nxt (some v) (List.replicate k v ++ l) i o = nxt (some v) l (i + k) o
  | 0, i => by simp
  | k + 1, i => by
    rw [List.replicate_succ, List.cons_append]
    show (if o ≤ i ∧ some v ≠ some v then i else nxt (some v) (List.replicate k v ++ l) (i + 1) o) = _
    rw [if_neg (by simp), nxt_rep v l o k]
    congr 1
    omega
/-- The next run's beginning, by the runs. -/
def nextR : List Rn → Int → Int
  | [], _ => -1
  | r :: R, o => if o ≤ r.1 then r.1 else nextR R o
theorem nxt_runs : ∀ (R : List Rn) (s : Int) (p : Option Int) (o : Int), Cont s R → Dist p R → nxt p (xp R) s o = nextR R o
  | [], _, _, _, _, _ => rfl
  | r :: R, s, p, o, ⟨c1, c2, c3⟩, ⟨d1, d2⟩ => by
    obtain ⟨k, hk⟩ : ∃ k : Nat, wdt r = k + 1 := ⟨wdt r - 1, by unfold wdt; omega⟩
    rw [xp_cons, hk, List.replicate_succ, List.cons_append]
    show (if o ≤ s ∧ p ≠ some r.2.2 then s else nxt (some r.2.2) (List.replicate k r.2.2 ++ xp R) (s + 1) o) = if o ≤ r.1 then r.1 else nextR R o
    rw [← c1]
    by_cases ho : o ≤ r.1
    · rw [if_pos ⟨ho, d1⟩, if_pos ho]
    · rw [if_neg (by omega), if_neg ho, nxt_rep]
      have : r.1 + 1 + (k : Int) = r.2.1 := by unfold wdt at hk; omega
      rw [this]
      exact nxt_runs R r.2.1 _ o c3 d2
theorem next_is (l : List Int) (o : Int) : nextR (runsOf l) o = nxt none l 0 o := by
  obtain ⟨h1, _, h3⟩ := runs_ok l
  rw [← nxt_runs _ 0 none o h1 (runs_dist l), h3]

/-- The next offset with a value, by the values, and by the runs. -/
def fnd : List Int → Int → Int → Int → Int
  | [], _, _, _ => -1
  | x :: l, i, o, v => if o ≤ i ∧ x = v then i else fnd l (i + 1) o v
theorem fnd_other (u v : Int) (l : List Int) (o : Int) (h : u ≠ v) : ∀ (k : Nat) (i : Int), fnd (List.replicate k u ++ l) i o v = fnd l (i + k) o v
  | 0, i => by simp
  | k + 1, i => by
    rw [List.replicate_succ, List.cons_append]
    show (if o ≤ i ∧ u = v then i else fnd (List.replicate k u ++ l) (i + 1) o v) = _
    rw [if_neg (by intro hc; exact h hc.2), fnd_other u v l o h k]
    congr 1
    omega
theorem fnd_same (v : Int) (l : List Int) (o : Int) : ∀ (k : Nat) (i : Int), fnd (List.replicate k v ++ l) i o v = if o < i + k then (if 0 < k then max i o else fnd l i o v) else fnd l (i + k) o v
  | 0, i => by simp
  | k + 1, i => by
    rw [List.replicate_succ, List.cons_append]
    show (if o ≤ i ∧ v = v then i else fnd (List.replicate k v ++ l) (i + 1) o v) = _
    by_cases ho : o ≤ i
    · rw [if_pos ⟨ho, rfl⟩, if_pos (by omega), if_pos (by omega), Int.max_eq_left ho]
    · rw [if_neg (by intro hc; exact ho hc.1), fnd_same v l o k]
      have e : i + 1 + (k : Int) = i + ((k + 1 : Nat) : Int) := by omega
      rw [e]
      by_cases h2 : o < i + ((k + 1 : Nat) : Int)
      · rw [if_pos h2, if_pos h2, if_pos (show 0 < k by omega), if_pos (by omega), Int.max_eq_right (by omega), Int.max_eq_right (by omega)]
      · rw [if_neg h2, if_neg h2]
def findR : List Rn → Int → Int → Int
  | [], _, _ => -1
  | r :: R, o, v => if o < r.2.1 ∧ r.2.2 = v then max r.1 o else findR R o v
theorem fnd_runs : ∀ (R : List Rn) (s o v : Int), Cont s R → fnd (xp R) s o v = findR R o v
  | [], _, _, _, _ => rfl
  | r :: R, s, o, v, ⟨c1, c2, c3⟩ => by
    have he : s + (wdt r : Int) = r.2.1 := by unfold wdt; omega
    rw [xp_cons]
    show _ = if o < r.2.1 ∧ r.2.2 = v then max r.1 o else findR R o v
    by_cases hv : r.2.2 = v
    · rw [hv, fnd_same, he]
      by_cases ho : o < r.2.1
      · rw [if_pos ho, if_pos (show 0 < wdt r by unfold wdt; omega), if_pos ⟨ho, rfl⟩, c1]
      · rw [if_neg ho, if_neg (by intro h; exact ho h.1)]
        exact fnd_runs R _ o v c3
    · rw [fnd_other _ _ _ _ hv, he, if_neg (by intro h; exact hv h.2)]
      exact fnd_runs R _ o v c3
theorem find_is (l : List Int) (o v : Int) : findR (runsOf l) o v = fnd l 0 o v := by
  obtain ⟨h1, _, h3⟩ := runs_ok l
  rw [← fnd_runs _ 0 o v h1, h3]

/-- The value at an offset. -/
theorem at_runs : ∀ (R : List Rn) (s o : Int), Cont s R → s ≤ o → o < endOf s R → ∃ r, R[findI R o]? = some r ∧ (xp R)[(o - s).toNat]? = some r.2.2
  | [], s, o, _, h1, h2 => by simp only [endOf] at h2; omega
  | r :: R, s, o, ⟨c1, c2, c3⟩, h1, h2 => by
    have hl : (List.replicate (wdt r) r.2.2).length = (r.2.1 - s).toNat := by rw [List.length_replicate]; unfold wdt; omega
    by_cases hc : o < r.2.1
    · refine ⟨r, ?_, ?_⟩
      · have : findI (r :: R) o = 0 := by show (if o < r.2.1 then 0 else findI R o + 1) = 0; rw [if_pos hc]
        rw [this]; rfl
      · rw [xp_cons, List.getElem?_append_left (by rw [hl]; omega), List.getElem?_replicate, if_pos (by unfold wdt; omega)]
    · have h2' : o < endOf r.2.1 R := h2
      obtain ⟨u, e1, e2⟩ := at_runs R r.2.1 o c3 (by omega) h2'
      refine ⟨u, ?_, ?_⟩
      · have : findI (r :: R) o = findI R o + 1 := by show (if o < r.2.1 then 0 else findI R o + 1) = _; rw [if_neg hc]
        rw [this, List.getElem?_cons_succ, e1]
      · rw [xp_cons, List.getElem?_append_right (by rw [hl]; omega), hl, ← e2]
        congr 1
        omega
theorem at_is (l : List Int) (o : Nat) (h : o < l.length) : ∃ r, (runsOf l)[findI (runsOf l) o]? = some r ∧ l[o]? = some r.2.2 := by
  obtain ⟨h1, h2, h3⟩ := runs_ok l
  obtain ⟨r, e1, e2⟩ := at_runs _ 0 o h1 (by omega) (by omega)
  rw [h3] at e2
  exact ⟨r, e1, by simpa using e2⟩

/-- The first run that meets a test. -/
def idxF (p : Rn → Bool) : List Rn → Int → Int
  | [], _ => -1
  | r :: R, k => if p r then k else idxF p R (k + 1)
theorem idx_cases (p : Rn → Bool) : ∀ (R : List Rn) (k : Nat), (idxF p R k = -1 ∧ R.find? p = none) ∨ ∃ (j : Nat) (r : Rn), idxF p R k = ((k + j : Nat) : Int) ∧ R[j]? = some r ∧ R.find? p = some r
  | [], _ => .inl ⟨rfl, rfl⟩
  | r :: R, k => by
    by_cases h : p r = true
    · refine .inr ⟨0, r, ?_, rfl, by rw [List.find?_cons_of_pos h]⟩
      show (if p r then (k : Int) else idxF p R (k + 1)) = _
      rw [if_pos h]; rfl
    · have e : idxF p (r :: R) k = idxF p R ((k + 1 : Nat) : Int) := by
        show (if p r then (k : Int) else idxF p R (k + 1)) = _
        rw [if_neg h]; rfl
      rw [e, List.find?_cons_of_neg h]
      rcases idx_cases p R (k + 1) with ⟨h1, h2⟩ | ⟨j, u, h1, h2, h3⟩
      · exact .inl ⟨h1, h2⟩
      · exact .inr ⟨j + 1, u, by rw [h1]; congr 1; omega, by rw [List.getElem?_cons_succ]; exact h2, h3⟩
theorem nextR_find (R : List Rn) (o : Int) : nextR R o = match R.find? (fun r => decide (o ≤ r.1)) with | some r => r.1 | none => -1 := by
  induction R with
  | nil => rfl
  | cons r R ih =>
    show (if o ≤ r.1 then r.1 else nextR R o) = _
    by_cases h : o ≤ r.1
    · rw [if_pos h, List.find?_cons_of_pos (by simpa using h)]
    · rw [if_neg h, List.find?_cons_of_neg (by simpa using h), ih]
theorem findR_find (R : List Rn) (o v : Int) : findR R o v = match R.find? (fun r => decide (o < r.2.1) && (r.2.2 == v)) with | some r => max r.1 o | none => -1 := by
  induction R with
  | nil => rfl
  | cons r R ih =>
    show (if o < r.2.1 ∧ r.2.2 = v then max r.1 o else findR R o v) = _
    by_cases h : o < r.2.1 ∧ r.2.2 = v
    · rw [if_pos h, List.find?_cons_of_pos (by simpa using h)]
    · rw [if_neg h, List.find?_cons_of_neg (by simpa using h), ih]
end Go.Proofs.Ytpcjklfdgjeamaa
