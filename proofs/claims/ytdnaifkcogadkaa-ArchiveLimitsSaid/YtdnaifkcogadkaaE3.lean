/- Plainly: parts in order, inserted one by one; one order alone. -/
import Derived.Test.YtdnaifkcogadkaaE2
namespace Go.Proofs.Ytdnaifkcogadkaa

abbrev ltN (x y : Prt) : Prop := x.1.toList < y.1.toList
theorem ltN_asymm {x y : Prt} (h : ltN x y) : ¬ ltN y x := List.lt_asymm h
theorem ltN_trans {x y z : Prt} (h : ltN x y) (h2 : ltN y z) : ltN x z := List.lt_trans h h2
theorem ltN_of {x y z : Prt} (h : ltN x y) (h2 : ¬ ltN z y) : ltN x z :=
  Decidable.byContradiction fun h4 => h2 (List.lt_of_le_of_lt (List.not_lt.1 h4) h)
theorem toList_inj {x y : ByteArray} (h : x.toList = y.toList) : x = y := by
  have h1 : (x == y) = true := by rw [beq_toListBytes, h]; simp
  exact (Go.MapKept.bytes_beq x y).1 h1
theorem insert_sorted {q : List Prt} {x : Prt} {k : Nat} (hq : SortedP q) (hhi : ∀ y ∈ q.drop k, ltN x y) (hlo : ∀ y ∈ q.take k, ¬ ltN x y) : SortedP (q.take k ++ ([x] ++ q.drop k)) := by
  unfold SortedP at hq ⊢
  rw [← List.take_append_drop k q, List.pairwise_append] at hq
  obtain ⟨h1, h2, h3⟩ := hq
  refine List.pairwise_append.2 ⟨h1, ?_, ?_⟩
  · rw [List.singleton_append, List.pairwise_cons]
    exact ⟨fun y hy => ltN_asymm (hhi y hy), h2⟩
  · intro a ha b hb
    rcases List.mem_append.1 hb with hb | hb
    · obtain rfl := List.mem_singleton.1 hb
      exact hlo a ha
    · exact h3 a ha b hb
theorem insert_perm (q : List Prt) (x : Prt) (k : Nat) : (q.take k ++ ([x] ++ q.drop k)).Perm (q ++ [x]) :=
  (List.Perm.append_left (q.take k) (List.perm_append_comm (l₁ := [x]) (l₂ := q.drop k))).trans (by rw [← List.append_assoc, List.take_append_drop])
/-- What stands ahead of place k is not greater, if the last of it is not. -/
theorem insert_lo {q : List Prt} {x : Prt} {k : Nat} (hq : SortedP q) (hk : k < q.length) (h : ¬ ltN x q[k]) : ∀ y ∈ q.take (k + 1), ¬ ltN x y := fun y hy hxy => by
  rw [List.take_succ_eq_append_getElem hk] at hy
  rcases List.mem_append.1 hy with hy | hy
  · obtain ⟨i, hi, rfl⟩ := List.mem_iff_getElem.1 hy
    rw [List.length_take] at hi
    rw [List.getElem_take] at hxy
    exact h (ltN_of hxy (List.pairwise_iff_getElem.1 hq i k (by omega) hk (by omega)))
  · obtain rfl := List.mem_singleton.1 hy
    exact h hxy
/-- No two parts are named alike. -/
def Apart (l : List Prt) : Prop := (l.map Prod.fst).Nodup
theorem chkAll_apart : ∀ (l : List Prt) (S : List ByteArray), chkAll l S = 0 → (l.map Prod.fst).Nodup ∧ ∀ x ∈ l.map Prod.fst, x ∉ S
  | [], _, _ => ⟨List.nodup_nil, fun x hx => by cases hx⟩
  | p :: r, S, h => by
    rw [chkAll_cons] at h
    by_cases h1 : chkP p ≠ 0
    · rw [if_pos h1] at h; exact absurd h h1
    · rw [if_neg h1] at h
      by_cases h2 : seenB S p.1 = true
      · rw [if_pos h2] at h; exact absurd h (by decide)
      · rw [if_neg h2] at h
        obtain ⟨h3, h4⟩ := chkAll_apart r (p.1 :: S) h
        have h5 : p.1 ∉ S := fun hm => h2 ((seenB_iff _ _).2 hm)
        refine ⟨?_, ?_⟩
        · rw [List.map_cons, List.nodup_cons]
          exact ⟨fun hm => h4 _ hm (by simp), h3⟩
        · intro x hx
          rw [List.map_cons, List.mem_cons] at hx
          rcases hx with rfl | hx
          · exact h5
          · exact fun hm => h4 x hx (by simp [hm])
theorem errE_apart {l : List Prt} (h : errE l = 0) : Apart l := by
  unfold errE at h
  by_cases h64 : 64 < l.length
  · rw [if_pos h64] at h; exact absurd h (by decide)
  · rw [if_neg h64] at h
    exact (chkAll_apart l [] h).1
theorem apart_eq {l : List Prt} (h : Apart l) {x y : Prt} (hx : x ∈ l) (hy : y ∈ l) (he : x.1 = y.1) : x = y := by
  unfold Apart at h
  induction l with
  | nil => cases hx
  | cons p r ih =>
    rw [List.map_cons, List.nodup_cons] at h
    rcases List.mem_cons.1 hx with e1 | h1 <;> rcases List.mem_cons.1 hy with e2 | h2
    · rw [e1, e2]
    · exact absurd (by rw [← e1, he]; exact List.mem_map_of_mem (f := Prod.fst) h2) h.1
    · exact absurd (by rw [← e2, ← he]; exact List.mem_map_of_mem (f := Prod.fst) h1) h.1
    · exact ih h.2 h1 h2
/-- Parts that are named apart have one order alone. -/
theorem sorted_one {l p q : List Prt} (h : Apart l) (hp : p.Perm l) (hq : q.Perm l) (sp : SortedP p) (sq : SortedP q) : p = q := by
  unfold SortedP at sp sq
  refine List.Perm.eq_of_pairwise ?_ sp sq (hp.trans hq.symm)
  intro a b ha hb h1 h2
  refine apart_eq h (hp.mem_iff.1 ha) (hq.mem_iff.1 hb) (toList_inj ?_)
  exact List.le_antisymm (List.not_lt.1 h1) (List.not_lt.1 h2)
end Go.Proofs.Ytdnaifkcogadkaa
