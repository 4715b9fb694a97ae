/- The greatest score of an alignment, and the choices of the table; no program in sight. -/
import Derived.Test.YtbpegoekjlehcaaPl
namespace Go.Proofs.Ytbpegoekjlehcaa

/-- What a new changed region costs outside (0) and within one (1). -/
def opn (g : Int) (s : Nat) : Int := if s = 0 then g else 0
/-- The better of leaving out the first (2) or the second (3), and of a match (1). -/
def best3 (n m : Int) (eq : Bool) (q : Int) : Int × Nat :=
  if eq = true ∧ (if n < m then m else n) ≤ q then (q, 1) else if n < m then (m, 3) else (n, 2)
def optC (g : Int) : List Tok → List Tok → Nat → Int × Nat
  | [], [], _ => (0, 3)
  | [], _ :: ys, s => ((optC g [] ys 1).1 - opn g s, 3)
  | _ :: xs, [], s => ((optC g xs [] 1).1 - opn g s, 2)
  | x :: xs, y :: ys, s => best3 ((optC g xs (y :: ys) 1).1 - opn g s) ((optC g (x :: xs) ys 1).1 - opn g s) (x.1 == y.1) ((optC g xs ys 0).1 + min x.2 y.2)
termination_by a b => a.length + b.length
/-- At indices. -/
def oT (g : Int) (a b : List Tok) (i k s : Nat) : Int := (optC g (a.drop i) (b.drop k) s).1
def cT (g : Int) (a b : List Tok) (i k s : Nat) : Nat := (optC g (a.drop i) (b.drop k) s).2

theorem optC_end (g : Int) (a b : List Tok) (s : Nat) : optC g (a.drop a.length) (b.drop b.length) s = (0, 3) := by simp [optC]
theorem optC_nil (g : Int) (a b : List Tok) (k s : Nat) (h : k < b.length) : optC g (a.drop a.length) (b.drop k) s = (oT g a b a.length (k + 1) 1 - opn g s, 3) := by
  unfold oT
  rw [List.drop_eq_getElem_cons h, List.drop_length, optC]
theorem optC_left (g : Int) (a b : List Tok) (i s : Nat) (h : i < a.length) : optC g (a.drop i) (b.drop b.length) s = (oT g a b (i + 1) b.length 1 - opn g s, 2) := by
  unfold oT
  rw [List.drop_eq_getElem_cons h, List.drop_length, optC]
theorem optC_both (g : Int) (a b : List Tok) (i k s : Nat) (h : i < a.length) (h' : k < b.length) :
    optC g (a.drop i) (b.drop k) s = best3 (oT g a b (i + 1) k 1 - opn g s) (oT g a b i (k + 1) 1 - opn g s) (a[i].1 == b[k].1) (oT g a b (i + 1) (k + 1) 0 + min a[i].2 b[k].2) := by
  unfold oT
  rw [List.drop_eq_getElem_cons h, List.drop_eq_getElem_cons h', optC]

theorem best3_fst (n m : Int) (eq : Bool) (q : Int) : (best3 n m eq q).1 = if eq = true ∧ (if n < m then m else n) ≤ q then q else if n < m then m else n := by
  unfold best3
  by_cases h' : eq = true ∧ (if n < m then m else n) ≤ q
  · rw [if_pos h', if_pos h']
  · rw [if_neg h', if_neg h']
    by_cases h : n < m
    · rw [if_pos h, if_pos h]
    · rw [if_neg h, if_neg h]

theorem optC_bound (g : Int) (hg : 0 ≤ g) (a b : List Tok) (s : Nat) : WOk a → WOk b → -opn g s ≤ (optC g a b s).1 ∧ (optC g a b s).1 ≤ sumL a := by
  fun_induction optC g a b s with
  | case1 s => intro _ _; simp [sumL, opn]; split <;> omega
  | case2 y ys s ih =>
    intro ha hb
    have := ih ha (fun t ht => hb t (by simp [ht]))
    simp only [opn, sumL] at *
    split <;> omega
  | case3 x xs s ih =>
    intro ha hb
    have := ih (fun t ht => ha t (by simp [ht])) hb
    have h1 := ha x (by simp)
    simp only [opn, sumL] at *
    split <;> omega
  | case4 x xs y ys s ih1 ih2 ih3 =>
    intro ha hb
    have ha' : WOk xs := fun t ht => ha t (by simp [ht])
    have hb' : WOk ys := fun t ht => hb t (by simp [ht])
    have h1 := ih1 ha' hb
    have h2 := ih2 ha hb'
    have h3 := ih3 ha' hb'
    have h4 := ha x (by simp)
    have h5 := hb y (by simp)
    have h6 := sumL_bound xs ha'
    rw [best3_fst]
    have hmin : min x.2 y.2 ≤ x.2 := Int.min_le_left _ _
    have hmin' : 1 ≤ min x.2 y.2 := by rw [Int.min_def]; split <;> omega
    simp only [opn, sumL] at *
    split <;> split <;> (try split) <;> omega

theorem oT_bound (g : Int) (hg : 0 ≤ g) (hg1 : g ≤ 1000) (a b : List Tok) (ha : WOk a) (hb : WOk b) (i k s : Nat) : -1000 ≤ oT g a b i k s ∧ oT g a b i k s ≤ 1000 * a.length := by
  have h1 := optC_bound g hg (a.drop i) (b.drop k) s (fun t ht => ha t (List.mem_of_mem_drop ht)) (fun t ht => hb t (List.mem_of_mem_drop ht))
  have h2 := sumL_bound (a.drop i) (fun t ht => ha t (List.mem_of_mem_drop ht))
  rw [List.length_drop] at h2
  unfold oT
  have : opn g s ≤ 1000 := by unfold opn; split <;> omega
  omega

/-- The canonical alignment, along the choices. -/
def pathP (g : Int) : List Tok → List Tok → Nat → Nat → Nat → List Tok
  | [], _, _, _, _ => []
  | _ :: _, [], _, _, _ => []
  | x :: xs, y :: ys, s, i, k =>
    if (optC g (x :: xs) (y :: ys) s).2 = 1 then ((i : Int), (k : Int)) :: pathP g xs ys 0 (i + 1) (k + 1)
    else if (optC g (x :: xs) (y :: ys) s).2 = 2 then pathP g xs (y :: ys) 1 (i + 1) k
    else pathP g (x :: xs) ys 1 i (k + 1)
termination_by a b => a.length + b.length
def alignL (a b : List Tok) (g : Int) : List Tok := pathP g a b 0 0 0
theorem pathP_step (g : Int) (a b : List Tok) (i k s : Nat) (h : i < a.length) (h' : k < b.length) :
    pathP g (a.drop i) (b.drop k) s i k = if cT g a b i k s = 1 then ((i : Int), (k : Int)) :: pathP g (a.drop (i + 1)) (b.drop (k + 1)) 0 (i + 1) (k + 1)
      else if cT g a b i k s = 2 then pathP g (a.drop (i + 1)) (b.drop k) 1 (i + 1) k else pathP g (a.drop i) (b.drop (k + 1)) 1 i (k + 1) := by
  unfold cT
  rw [List.drop_eq_getElem_cons h, List.drop_eq_getElem_cons h', pathP]
theorem pathP_nil (g : Int) (a b : List Tok) (i k s : Nat) (h : a.length ≤ i ∨ b.length ≤ k) : pathP g (a.drop i) (b.drop k) s i k = [] := by
  rcases h with h | h
  · rw [List.drop_of_length_le h, pathP]
  · rw [List.drop_of_length_le h]
    cases a.drop i <;> rw [pathP]

end Go.Proofs.Ytbpegoekjlehcaa
