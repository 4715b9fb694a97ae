/- The plain side of the map of runs, more: bounds, and what a splice and an addition make of the values. -/
import Derived.Test.YtpcjklfdgjeamaaPl
import Derived.Test.YtpcjklfdgjeamaaLib4
namespace Go.Proofs.Ytpcjklfdgjeamaa

theorem cont_bounds : ∀ (R : List Rn) (s : Int), Cont s R → ∀ r ∈ R, s ≤ r.1 ∧ r.1 < r.2.1 ∧ r.2.1 ≤ endOf s R
  | [], _, _ => fun r h => by simp at h
  | r :: R, s, ⟨h1, h2, h3⟩ => fun u hu => by
    have he : s ≤ endOf r.2.1 R ∧ r.2.1 ≤ endOf r.2.1 R := by
      rw [cont_end R _ h3]; omega
    rcases List.mem_cons.1 hu with rfl | hu
    · exact ⟨by omega, by omega, he.2⟩
    · have := cont_bounds R _ h3 u hu
      exact ⟨by omega, this.2.1, this.2.2⟩
theorem cont_length : ∀ (R : List Rn) (s : Int), Cont s R → (R.length : Int) ≤ endOf s R - s
  | [], s, _ => by simp [endOf]
  | r :: R, s, ⟨h1, h2, h3⟩ => by
    have := cont_length R _ h3
    show ((R.length + 1 : Nat) : Int) ≤ endOf r.2.1 R - s
    omega
theorem setA_length (p : Int) (M : List Rn) : (setA p M).length = M.length := by cases M <;> rfl
theorem setZ_length (q : Int) : ∀ (M : List Rn), (setZ q M).length = M.length
  | [] => rfl
  | [_] => rfl
  | r :: u :: t => by show (setZ q (u :: t)).length + 1 = _; rw [setZ_length q (u :: t)]; rfl
theorem cut_length (R : List Rn) (p q : Int) : (cutL R p q).length ≤ R.length := by
  unfold cutL
  split
  · simp
  · rw [setZ_length, setA_length, List.length_take, List.length_drop]; omega
theorem setA_mem {p N : Int} {M : List Rn} (h : ∀ r ∈ M, 0 ≤ r.1 ∧ r.2.1 ≤ N) (hp : 0 ≤ p) : ∀ r ∈ setA p M, 0 ≤ r.1 ∧ r.2.1 ≤ N := by
  cases M with
  | nil => exact h
  | cons u t =>
    intro r hr
    rcases List.mem_cons.1 hr with rfl | hr
    · exact ⟨hp, (h u (by simp)).2⟩
    · exact h r (by simp [hr])
theorem setZ_mem {q N : Int} : ∀ {M : List Rn}, (∀ r ∈ M, 0 ≤ r.1 ∧ r.2.1 ≤ N) → q ≤ N → ∀ r ∈ setZ q M, 0 ≤ r.1 ∧ r.2.1 ≤ N
  | [], h, _ => h
  | [u], h, hq => fun r hr => by
    simp only [setZ, List.mem_singleton] at hr
    subst hr
    exact ⟨(h u (by simp)).1, hq⟩
  | u :: v :: t, h, hq => fun r hr => by
    rcases List.mem_cons.1 hr with rfl | hr
    · exact h r (by simp)
    · exact setZ_mem (M := v :: t) (fun r hr => h r (by simp [hr])) hq r hr
theorem cut_bounds {R : List Rn} {p q : Int} (hc : Cont 0 R) (hp : 0 ≤ p) (hq : q ≤ endOf 0 R) : ∀ r ∈ cutL R p q, 0 ≤ r.1 ∧ r.1 < r.2.1 ∧ r.2.1 ≤ endOf 0 R := by
  by_cases h : q ≤ p
  · intro r hr
    unfold cutL at hr
    rw [if_pos h] at hr
    simp at hr
  · have h1 := (cut_xp R 0 p q hc hp (by omega) hq).2
    have h2 : ∀ r ∈ cutL R p q, 0 ≤ r.1 ∧ r.2.1 ≤ endOf 0 R := by
      unfold cutL
      rw [if_neg h]
      refine setZ_mem (setA_mem (fun r hr => ?_) hp) hq
      have := cont_bounds R 0 hc r (List.mem_of_mem_drop (List.mem_of_mem_take hr))
      omega
    exact fun r hr => ⟨(h2 r hr).1, h1 r hr, (h2 r hr).2⟩
theorem runs_length (l : List Int) : (runsOf l).length ≤ l.length := by
  obtain ⟨h1, h2, _⟩ := runs_ok l
  have := cont_length _ _ h1
  omega

/-- What Splice puts in. -/
def spM (ins val : Int) : List Rn := if ins = 0 then [] else [(0, ins, val)]
theorem spM_xp (ins val : Int) (_h : 0 ≤ ins) : xp (spM ins val) = List.replicate ins.toNat val := by
  unfold spM
  split
  · next h0 => subst h0; rfl
  · simp [xp, wdt]
theorem spM_wide (ins val : Int) (h : 0 ≤ ins) : Wide (spM ins val) := by
  unfold spM
  split
  · intro r hr; simp at hr
  · intro r hr; simp at hr; subst hr; simp only; omega
/-- What Add makes of runs, and of values. -/
def wr64 (x : Int) : Int := IntKind.i64.wrap x
def addRs (d : Int) (M : List Rn) : List Rn := M.map fun r => (r.1, r.2.1, wr64 (r.2.2 + d))
theorem addRs_xp (d : Int) (M : List Rn) : xp (addRs d M) = (xp M).map fun v => wr64 (v + d) := by
  induction M with
  | nil => rfl
  | cons r M ih =>
    show xp ((r.1, r.2.1, wr64 (r.2.2 + d)) :: addRs d M) = _
    rw [xp_cons, ih, xp_cons, List.map_append, List.map_replicate]
    rfl
theorem addRs_wide {d : Int} {M : List Rn} (h : Wide M) : Wide (addRs d M) := fun r hr => by
  obtain ⟨u, hu, rfl⟩ := List.mem_map.1 hr
  exact h u hu
/-- The values behind a change. -/
def spliceL (l : List Int) (p q : Nat) (M : List Int) : List Int := l.take p ++ M ++ l.drop q
end Go.Proofs.Ytpcjklfdgjeamaa
