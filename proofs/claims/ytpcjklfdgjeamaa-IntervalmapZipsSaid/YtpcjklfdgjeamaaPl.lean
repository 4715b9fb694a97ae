/- The plain side of the map of runs: runs and the values that they stand for; no program in sight. -/
namespace Go.Proofs.Ytpcjklfdgjeamaa

/-- A run: where it begins, where it ends, its value. -/
abbrev Rn := Int × Int × Int
def wdt (r : Rn) : Nat := (r.2.1 - r.1).toNat
/-- The values that runs stand for. -/
def xp (R : List Rn) : List Int := R.flatMap fun r => List.replicate (wdt r) r.2.2
theorem xp_cons (r : Rn) (R : List Rn) : xp (r :: R) = List.replicate (wdt r) r.2.2 ++ xp R := rfl
theorem xp_append (A B : List Rn) : xp (A ++ B) = xp A ++ xp B := by simp [xp]
/-- One more run behind others: joined to the last one where the values agree. -/
def addR (out : List Rn) (n v q : Int) : List Rn :=
  match out.getLast? with
  | some r => if r.2.2 = v then out.dropLast ++ [(r.1, r.2.1 + n, r.2.2)] else out ++ [(q, q + n, v)]
  | none => out ++ [(q, q + n, v)]
theorem addR_nil (n v q : Int) : addR [] n v q = [(q, q + n, v)] := rfl
theorem addR_snoc (o : List Rn) (r : Rn) (n v q : Int) : addR (o ++ [r]) n v q = if r.2.2 = v then o ++ [(r.1, r.2.1 + n, r.2.2)] else o ++ [r] ++ [(q, q + n, v)] := by
  simp [addR]
theorem nil_or_snoc {α : Type} (l : List α) : l = [] ∨ ∃ o r, l = o ++ [r] := by
  rcases List.eq_nil_or_concat l with h | ⟨o, r, h⟩
  · exact .inl h
  · exact .inr ⟨o, r, by simpa using h⟩
theorem addR_add (out : List Rn) (n m v q : Int) : addR (addR out n v q) m v (q + n) = addR out (n + m) v q := by
  rcases nil_or_snoc out with rfl | ⟨o, r, rfl⟩
  · rw [addR_nil, addR_nil]
    have := addR_snoc [] (q, q + n, v) m v (q + n)
    rw [List.nil_append, if_pos rfl] at this
    rw [this, List.nil_append, Int.add_assoc]
  · rw [addR_snoc, addR_snoc]
    by_cases h : r.2.2 = v
    · rw [if_pos h, if_pos h, addR_snoc, if_pos h, Int.add_assoc]
    · rw [if_neg h, if_neg h, addR_snoc, if_pos rfl, Int.add_assoc]

/-- What 'join' makes of runs, and what the definition makes of values. -/
def joinF : List Rn → List Rn → Int → List Rn
  | [], out, _ => out
  | r :: R, out, q => joinF R (addR out (r.2.1 - r.1) r.2.2 q) (q + (r.2.1 - r.1))
def runsF : List Int → List Rn → Int → List Rn
  | [], out, _ => out
  | v :: l, out, q => runsF l (addR out 1 v q) (q + 1)
def runsOf (l : List Int) : List Rn := runsF l [] 0
theorem runsF_rep (v : Int) (l : List Int) : ∀ (n : Nat) (out : List Rn) (q : Int), runsF (List.replicate (n + 1) v ++ l) out q = runsF l (addR out (n + 1 : Nat) v q) (q + (n + 1 : Nat))
  | 0, out, q => rfl
  | n + 1, out, q => by
    rw [List.replicate_succ, List.cons_append]
    show runsF (List.replicate (n + 1) v ++ l) (addR out 1 v q) (q + 1) = _
    rw [runsF_rep v l n, addR_add]
    have e1 : (1 : Int) + (n + 1 : Nat) = (n + 1 + 1 : Nat) := by omega
    have e2 : q + 1 + (n + 1 : Nat) = q + (n + 1 + 1 : Nat) := by omega
    rw [e1, e2]
/-- All runs are of some width. -/
def Wide (R : List Rn) : Prop := ∀ r ∈ R, r.1 < r.2.1
theorem Wide.append {A B : List Rn} (ha : Wide A) (hb : Wide B) : Wide (A ++ B) := fun r hr => by
  rcases List.mem_append.1 hr with h | h
  · exact ha r h
  · exact hb r h
theorem join_runs : ∀ (R : List Rn) (out : List Rn) (q : Int), Wide R → joinF R out q = runsF (xp R) out q
  | [], _, _, _ => rfl
  | r :: R, out, q, h => by
    have h1 := h r (by simp)
    obtain ⟨k, hk⟩ : ∃ k : Nat, wdt r = k + 1 := ⟨wdt r - 1, by unfold wdt; omega⟩
    have hk2 : ((k + 1 : Nat) : Int) = r.2.1 - r.1 := by rw [← hk]; unfold wdt; omega
    rw [xp_cons, hk, runsF_rep, hk2]
    exact join_runs R _ _ fun u hu => h u (by simp [hu])

/-- Runs one after another, from s on. -/
def Cont : Int → List Rn → Prop
  | _, [] => True
  | s, r :: R => r.1 = s ∧ s < r.2.1 ∧ Cont r.2.1 R
def endOf : Int → List Rn → Int
  | s, [] => s
  | _, r :: R => endOf r.2.1 R
theorem cont_append : ∀ (A B : List Rn) (s : Int), Cont s (A ++ B) ↔ Cont s A ∧ Cont (endOf s A) B
  | [], B, s => by simp [Cont, endOf]
  | r :: A, B, s => by
    show (r.1 = s ∧ s < r.2.1 ∧ Cont r.2.1 (A ++ B)) ↔ (r.1 = s ∧ s < r.2.1 ∧ Cont r.2.1 A) ∧ _
    rw [cont_append A B r.2.1]
    simp only [endOf, and_assoc]
theorem endOf_append : ∀ (A B : List Rn) (s : Int), endOf s (A ++ B) = endOf (endOf s A) B
  | [], _, _ => rfl
  | r :: A, B, _ => endOf_append A B r.2.1
theorem cont_end : ∀ (R : List Rn) (s : Int), Cont s R → endOf s R = s + (xp R).length
  | [], s, _ => by simp [endOf, xp]
  | r :: R, s, ⟨h1, h2, h3⟩ => by
    have := cont_end R _ h3
    show endOf r.2.1 R = _
    rw [this, xp_cons, List.length_append, List.length_replicate]
    unfold wdt
    omega
theorem addR_cont {out : List Rn} {n v q : Int} (h : Cont 0 out) (he : endOf 0 out = q) (hn : 0 < n) :
    Cont 0 (addR out n v q) ∧ endOf 0 (addR out n v q) = q + n ∧ xp (addR out n v q) = xp out ++ List.replicate n.toNat v := by
  rcases nil_or_snoc out with rfl | ⟨o, r, rfl⟩
  · rw [addR_nil]
    simp only [endOf] at he
    subst he
    refine ⟨⟨rfl, by simp only; omega, trivial⟩, rfl, ?_⟩
    simp [xp, wdt]
  · rw [cont_append] at h
    obtain ⟨h1, h2, h3, _⟩ := h
    rw [endOf_append] at he
    simp only [endOf] at he
    rw [addR_snoc]
    by_cases hv : r.2.2 = v
    · rw [if_pos hv]
      refine ⟨(cont_append _ _ _).2 ⟨h1, h2, by simp only; omega, trivial⟩, by rw [endOf_append]; simp only [endOf]; omega, ?_⟩
      rw [xp_append, xp_append, List.append_assoc]
      congr 1
      simp only [xp, List.flatMap_cons, List.flatMap_nil, List.append_nil, wdt]
      rw [← hv, List.replicate_append_replicate]
      congr 1
      omega
    · rw [if_neg hv]
      refine ⟨(cont_append _ _ _).2 ⟨(cont_append _ _ _).2 ⟨h1, h2, h3, trivial⟩, ?_, ?_, trivial⟩, by rw [endOf_append]; rfl, ?_⟩
      · rw [endOf_append]; simp only [endOf]; omega
      · rw [endOf_append]; simp only [endOf]; omega
      · rw [xp_append]
        congr 1
        simp [xp, wdt]
        congr 1
        omega
theorem runsF_ok : ∀ (l : List Int) (out : List Rn) (q : Int), Cont 0 out → endOf 0 out = q →
    Cont 0 (runsF l out q) ∧ endOf 0 (runsF l out q) = q + l.length ∧ xp (runsF l out q) = xp out ++ l
  | [], out, q, h, he => ⟨h, by simpa [runsF] using he, by simp [runsF]⟩
  | v :: l, out, q, h, he => by
    obtain ⟨h1, h2, h3⟩ := addR_cont (v := v) h he (show (0 : Int) < 1 by omega)
    obtain ⟨k1, k2, k3⟩ := runsF_ok l _ _ h1 h2
    refine ⟨k1, by show endOf 0 (runsF l _ _) = _; rw [k2, List.length_cons]; omega, ?_⟩
    show xp (runsF l _ _) = _
    rw [k3, h3, List.append_assoc]
    rfl
theorem runs_ok (l : List Int) : Cont 0 (runsOf l) ∧ endOf 0 (runsOf l) = l.length ∧ xp (runsOf l) = l := by
  obtain ⟨h1, h2, h3⟩ := runsF_ok l [] 0 trivial rfl
  exact ⟨h1, by simpa [runsOf] using h2, by simpa [runsOf, xp] using h3⟩
theorem Cont.wide : ∀ {R : List Rn} {s : Int}, Cont s R → Wide R
  | [], _, _ => fun _ h => by simp at h
  | r :: R, s, ⟨h1, h2, h3⟩ => fun u hu => by
    rcases List.mem_cons.1 hu with rfl | hu
    · omega
    · exact h3.wide u hu

/-- The index of the run that has an offset. -/
def findI : List Rn → Int → Nat
  | [], _ => 0
  | r :: R, o => if o < r.2.1 then 0 else findI R o + 1
theorem find_lt : ∀ (R : List Rn) (s o : Int), Cont s R → o < endOf s R → s ≤ o → findI R o < R.length
  | [], s, o, _, h, h' => by simp only [endOf] at h; omega
  | r :: R, s, o, ⟨h1, h2, h3⟩, h, h' => by
    unfold findI
    by_cases hc : o < r.2.1
    · rw [if_pos hc]; simp
    · rw [if_neg hc]
      have := find_lt R r.2.1 o h3 h (by omega)
      simp; omega
def setA (p : Int) : List Rn → List Rn
  | [] => []
  | r :: t => (p, r.2.1, r.2.2) :: t
def setZ (q : Int) : List Rn → List Rn
  | [] => []
  | [r] => [(r.1, q, r.2.2)]
  | r :: u :: t => r :: setZ q (u :: t)
/-- The runs of a range. -/
def cutL (R : List Rn) (p q : Int) : List Rn :=
  if q ≤ p then [] else setZ q (setA p ((R.drop (findI R p)).take (findI R (q - 1) + 1 - findI R p)))
theorem setA_same {s : Int} : ∀ {R : List Rn}, Cont s R → setA s R = R
  | [], _ => rfl
  | r :: R, ⟨h1, _, _⟩ => by show (s, r.2.1, r.2.2) :: R = r :: R; rw [← h1]
theorem cont_take : ∀ (R : List Rn) (s : Int) (n : Nat), Cont s R → Cont s (R.take n)
  | [], s, n, _ => by simp [Cont]
  | r :: R, s, 0, _ => by simp [Cont]
  | r :: R, s, n + 1, ⟨h1, h2, h3⟩ => ⟨h1, h2, cont_take R _ n h3⟩
theorem cut_xp : ∀ (R : List Rn) (s p q : Int), Cont s R → s ≤ p → p < q → q ≤ endOf s R →
    xp (cutL R p q) = ((xp R).drop (p - s).toNat).take (q - p).toNat ∧ Wide (cutL R p q)
  | [], s, p, q, _, h1, h2, h3 => by simp only [endOf] at h3; omega
  | r :: R, s, p, q, ⟨c1, c2, c3⟩, h1, h2, h3 => by
    have h3' : q ≤ endOf r.2.1 R := h3
    have hlen : (List.replicate (wdt r) r.2.2).length = (r.2.1 - s).toNat := by rw [List.length_replicate]; unfold wdt; omega
    by_cases e1 : r.2.1 ≤ p
    · have hc : cutL (r :: R) p q = cutL R p q := by
        unfold cutL
        rw [if_neg (by omega), if_neg (by omega)]
        have f1 : findI (r :: R) p = findI R p + 1 := by show (if p < r.2.1 then 0 else findI R p + 1) = _; rw [if_neg (by omega)]
        have f2 : findI (r :: R) (q - 1) = findI R (q - 1) + 1 := by show (if q - 1 < r.2.1 then 0 else findI R (q - 1) + 1) = _; rw [if_neg (by omega)]
        rw [f1, f2, List.drop_succ_cons]
        congr 3
        omega
      obtain ⟨i1, i2⟩ := cut_xp R r.2.1 p q c3 e1 h2 h3'
      rw [hc]
      refine ⟨?_, i2⟩
      rw [i1, xp_cons r R, List.drop_append, List.drop_of_length_le (l := List.replicate (wdt r) r.2.2) (by rw [hlen]; omega), List.nil_append, hlen]
      congr 2
      omega
    · have f1 : findI (r :: R) p = 0 := by show (if p < r.2.1 then 0 else findI R p + 1) = _; rw [if_pos (by omega)]
      by_cases e2 : q ≤ r.2.1
      · have f2 : findI (r :: R) (q - 1) = 0 := by show (if q - 1 < r.2.1 then 0 else findI R (q - 1) + 1) = _; rw [if_pos (by omega)]
        have hc : cutL (r :: R) p q = [(p, q, r.2.2)] := by
          unfold cutL
          rw [if_neg (by omega), f1, f2]
          rfl
        rw [hc]
        refine ⟨?_, fun u hu => by simp only [List.mem_singleton] at hu; subst hu; exact h2⟩
        rw [xp_cons r R, List.drop_append, List.take_append_of_le_length (by rw [List.length_drop, hlen]; omega), List.drop_replicate, List.take_replicate]
        simp only [xp, List.flatMap_cons, List.flatMap_nil, List.append_nil]
        congr 1
        unfold wdt
        simp only
        omega
      · have f2 : findI (r :: R) (q - 1) = findI R (q - 1) + 1 := by show (if q - 1 < r.2.1 then 0 else findI R (q - 1) + 1) = _; rw [if_neg (by omega)]
        cases R with
        | nil => simp only [endOf] at h3'; omega
        | cons u t =>
          obtain ⟨i1, i2⟩ := cut_xp (u :: t) r.2.1 r.2.1 q c3 (Int.le_refl _) (by omega) h3'
          obtain ⟨d1, d2, d3⟩ := id c3
          have g1 : findI (u :: t) r.2.1 = 0 := by show (if r.2.1 < u.2.1 then 0 else findI t r.2.1 + 1) = _; rw [if_pos d2]
          have hc : cutL (r :: u :: t) p q = (p, r.2.1, r.2.2) :: cutL (u :: t) r.2.1 q := by
            unfold cutL
            rw [if_neg (by omega), if_neg (by omega), f1, f2, g1, List.drop_zero, List.drop_zero, Nat.sub_zero, Nat.sub_zero, setA_same (cont_take _ _ _ c3)]
            rfl
          rw [hc]
          refine ⟨?_, fun w hw => ?_⟩
          · obtain ⟨X, hX⟩ : ∃ X, X = xp (u :: t) := ⟨_, rfl⟩
            rw [xp_cons r (u :: t), xp_cons, i1, ← hX, List.drop_append, List.drop_replicate]
            have hz : (p - s).toNat - (List.replicate (wdt r) r.2.2).length = 0 := by rw [hlen]; omega
            have hz2 : (r.2.1 - r.2.1).toNat = 0 := by omega
            rw [hz, hz2, List.drop_zero, List.take_append, List.take_replicate, List.length_replicate]
            have a1 : wdt (p, r.2.1, r.2.2) = min (q - p).toNat (wdt r - (p - s).toNat) := by unfold wdt; simp only; omega
            have a2 : (q - r.2.1).toNat = (q - p).toNat - (wdt r - (p - s).toNat) := by unfold wdt; omega
            rw [a1, a2]
          · rcases List.mem_cons.1 hw with rfl | hw
            · simp only; omega
            · exact i2 w hw
/-- The values of a range of the runs of values. -/
theorem cut_runs (l : List Int) (p q : Nat) (hq : q ≤ l.length) : xp (cutL (runsOf l) p q) = (l.drop p).take (q - p) ∧ Wide (cutL (runsOf l) p q) := by
  obtain ⟨h1, h2, h3⟩ := runs_ok l
  by_cases h : q ≤ p
  · have : cutL (runsOf l) p q = [] := by unfold cutL; rw [if_pos (by omega)]
    rw [this]
    refine ⟨?_, fun _ h => by simp at h⟩
    rw [Nat.sub_eq_zero_of_le h]; simp [xp]
  · obtain ⟨i1, i2⟩ := cut_xp (runsOf l) 0 p q h1 (by omega) (by omega) (by omega)
    refine ⟨?_, i2⟩
    rw [i1, h3]
    congr 1
    · omega
/-- The runs behind a change of a range. -/
theorem join_parts (l : List Int) (p q : Nat) (M : List Rn) (hM : Wide M) (hp : p ≤ l.length) (_hq : q ≤ l.length) :
    joinF (cutL (runsOf l) 0 p ++ M ++ cutL (runsOf l) q l.length) [] 0 = runsOf (l.take p ++ xp M ++ l.drop q) := by
  have a0 : xp (cutL (runsOf l) 0 p) = (l.drop 0).take (p - 0) ∧ Wide (cutL (runsOf l) 0 p) := cut_runs l 0 p hp
  obtain ⟨a1, a2⟩ := a0
  obtain ⟨b1, b2⟩ := cut_runs l q l.length (Nat.le_refl _)
  rw [join_runs _ _ _ ((a2.append hM).append b2), xp_append, xp_append]
  unfold runsOf
  congr 1
  have e1 : xp (cutL (runsF l [] 0) 0 p) = l.take p := by
    have := a1
    simpa [runsOf] using this
  have e2 : xp (cutL (runsF l [] 0) q l.length) = l.drop q := by
    have := b1
    rw [show (l.drop q).take (l.length - q) = l.drop q from List.take_of_length_le (by simp)] at this
    simpa [runsOf] using this
  rw [e1, e2]
end Go.Proofs.Ytpcjklfdgjeamaa
