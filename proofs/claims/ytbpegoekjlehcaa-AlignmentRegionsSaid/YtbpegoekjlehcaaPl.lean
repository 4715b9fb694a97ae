/- The plain side of the alignment: tokens, checks, sums; no program in sight. -/
namespace Go.Proofs.Ytbpegoekjlehcaa

abbrev Tok := Int × Int

def chk : List Tok → Int
  | [] => 0
  | t :: r => if t.2 < 1 ∨ 1000 < t.2 then 5 else chk r
/-- The error of a list of tokens. -/
def checkL (l : List Tok) : Int := if 2048 < l.length then 9 else chk l
/-- The error of two lists. -/
def bothL (a b : List Tok) : Int := if checkL a = 0 then checkL b else checkL a
def gapL (g : Int) : Int := if g < 0 ∨ 1000 < g then 2 else 0
def sumL : List Tok → Int
  | [] => 0
  | t :: r => t.2 + sumL r

theorem chk_drop (l : List Tok) (k : Nat) (h : k < l.length) : chk (l.drop k) = if l[k].2 < 1 ∨ 1000 < l[k].2 then 5 else chk (l.drop (k + 1)) := by
  rw [List.drop_eq_getElem_cons h]; rfl
theorem sumL_append (a b : List Tok) : sumL (a ++ b) = sumL a + sumL b := by
  induction a with
  | nil => simp [sumL]
  | cons t r ih => simp only [List.cons_append, sumL, ih]; omega
theorem sumL_take (l : List Tok) (k : Nat) (h : k < l.length) : sumL (l.take (k + 1)) = sumL (l.take k) + l[k].2 := by
  rw [List.take_succ_eq_append_getElem h, sumL_append]; simp [sumL]
/-- All weights are right. -/
def WOk (l : List Tok) : Prop := ∀ t ∈ l, 1 ≤ t.2 ∧ t.2 ≤ 1000
theorem chk_zero (l : List Tok) : chk l = 0 ↔ WOk l := by
  induction l with
  | nil => simp [chk, WOk]
  | cons t r ih =>
    unfold chk WOk
    by_cases h : t.2 < 1 ∨ 1000 < t.2
    · rw [if_pos h]
      simp only [List.mem_cons, forall_eq_or_imp]
      exact ⟨fun e => by omega, fun e => by omega⟩
    · rw [if_neg h, ih]
      simp only [List.mem_cons, forall_eq_or_imp]
      exact ⟨fun e => ⟨by omega, e⟩, fun e => e.2⟩
theorem chk_cases (l : List Tok) : chk l = 0 ∨ chk l = 5 := by
  induction l with
  | nil => exact .inl rfl
  | cons t r ih => unfold chk; split; exact .inr rfl; exact ih
theorem sumL_bound (l : List Tok) (h : WOk l) : l.length ≤ sumL l ∧ sumL l ≤ 1000 * l.length := by
  induction l with
  | nil => simp [sumL]
  | cons t r ih =>
    have h1 := h t (by simp)
    have h2 := ih fun u hu => h u (by simp [hu])
    simp only [sumL, List.length_cons]
    omega
theorem sumL_take_bound (l : List Tok) (h : WOk l) (k : Nat) : 0 ≤ sumL (l.take k) ∧ sumL (l.take k) ≤ 1000 * l.length := by
  have := sumL_bound (l.take k) fun t ht => h t (List.mem_of_mem_take ht)
  rw [List.length_take] at this
  omega

/-- The weight at an index. -/
def wt (l : List Tok) (i : Int) : Int := (l[i.toNat]?.getD (0, 0)).2
def ky (l : List Tok) (i : Int) : Int := (l[i.toNat]?.getD (0, 0)).1
theorem wt_at (l : List Tok) (i : Nat) (h : i < l.length) : wt l (i : Int) = l[i].2 := by simp [wt, h]
theorem ky_at (l : List Tok) (i : Nat) (h : i < l.length) : ky l (i : Int) = l[i].1 := by simp [ky, h]
/-- The score of pairs, as the model goes over them. -/
def scoreF (a b : List Tok) (g : Int) : List Tok → Int → Int → Int → Int
  | [], n, i, j => if i < a.length ∨ j < b.length then n - g else n
  | p :: r, n, i, j => scoreF a b g r ((if i < p.1 ∨ j < p.2 then n - g else n) + min (wt a p.1) (wt b p.2)) (p.1 + 1) (p.2 + 1)
def scoreL (a b : List Tok) (g : Int) (p : List Tok) : Int := scoreF a b g p 0 0 0
theorem scoreF_drop (a b : List Tok) (g : Int) (p : List Tok) (k : Nat) (h : k < p.length) (n i j : Int) :
    scoreF a b g (p.drop k) n i j = scoreF a b g (p.drop (k + 1)) ((if i < p[k].1 ∨ j < p[k].2 then n - g else n) + min (wt a p[k].1) (wt b p[k].2)) (p[k].1 + 1) (p[k].2 + 1) := by
  rw [List.drop_eq_getElem_cons h]; rfl
/-- All pairs are indices into both lists. -/
def InR (a b : List Tok) (p : List Tok) : Prop := ∀ q ∈ p, 0 ≤ q.1 ∧ q.1 < a.length ∧ 0 ≤ q.2 ∧ q.2 < b.length

end Go.Proofs.Ytbpegoekjlehcaa
