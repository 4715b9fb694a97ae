/- The regions of an alignment, plainly. -/
import Derived.Test.YtbpegoekjlehcaaPl
namespace Go.Proofs.Ytbpegoekjlehcaa

abbrev Reg := Int × Int × Int × Int × Bool
/-- How many pairs from the first on lie in one line from (i, k). -/
def runN : List Tok → Int → Int → Nat
  | [], _, _ => 0
  | p :: r, i, k => if p = (i, k) then runN r (i + 1) (k + 1) + 1 else 0
theorem runN_le : ∀ (p : List Tok) (i k : Int), runN p i k ≤ p.length
  | [], _, _ => Nat.le_refl _
  | p :: r, i, k => by
    rw [runN]
    have := runN_le r (i + 1) (k + 1)
    split <;> simp <;> omega
theorem runN_head (p : Tok) (r : List Tok) : runN (p :: r) p.1 p.2 = runN r (p.1 + 1) (p.2 + 1) + 1 := by
  rw [runN, if_pos rfl]
section
variable (N M : Int)
def nextR : List Tok → Tok
  | [] => (N, M)
  | p :: _ => p
def endR (i k : Int) : List Reg := if i < N ∨ k < M then [(i, N, k, M, false)] else []
def gapR (p : List Tok) (i k : Int) : List Reg := if i < (nextR N M p).1 ∨ k < (nextR N M p).2 then [(i, (nextR N M p).1, k, (nextR N M p).2, false)] else []
def regs : Nat → List Tok → Int → Int → List Reg
  | 0, _, _, _ => []
  | f + 1, p, i, k => gapR N M p i k ++
      if runN p (nextR N M p).1 (nextR N M p).2 = 0 then [] else
        ((nextR N M p).1, (nextR N M p).1 + runN p (nextR N M p).1 (nextR N M p).2, (nextR N M p).2, (nextR N M p).2 + runN p (nextR N M p).1 (nextR N M p).2, true) ::
          if runN p (nextR N M p).1 (nextR N M p).2 = p.length then endR N M ((nextR N M p).1 + runN p (nextR N M p).1 (nextR N M p).2) ((nextR N M p).2 + runN p (nextR N M p).1 (nextR N M p).2)
          else regs f (p.drop (runN p (nextR N M p).1 (nextR N M p).2)) ((nextR N M p).1 + runN p (nextR N M p).1 (nextR N M p).2) ((nextR N M p).2 + runN p (nextR N M p).1 (nextR N M p).2)
/-- How many changed regions there are. -/
def gaps : List Tok → Int → Int → Nat
  | [], i, k => if i < N ∨ k < M then 1 else 0
  | p :: r, i, k => (if i < p.1 ∨ k < p.2 then 1 else 0) + gaps r (p.1 + 1) (p.2 + 1)
theorem gaps_run : ∀ (p : List Tok) (i k : Int), gaps N M p i k = gaps N M (p.drop (runN p i k)) (i + runN p i k) (k + runN p i k)
  | [], i, k => by simp [runN]
  | p :: r, i, k => by
    rw [runN]
    by_cases h : p = (i, k)
    · subst h
      rw [if_pos rfl, List.drop_succ_cons, gaps]
      simp only [Int.lt_irrefl, or_self, if_false, Nat.zero_add]
      rw [gaps_run r (i + 1) (k + 1)]
      congr 1
      · omega
      · omega
    · rw [if_neg h]; simp
end
theorem regs_cons (N M : Int) (f : Nat) (p : Tok) (r : List Tok) (i k : Int) : regs N M (f + 1) (p :: r) i k = gapR N M (p :: r) i k ++
    (p.1, p.1 + ((runN r (p.1 + 1) (p.2 + 1) + 1 : Nat) : Int), p.2, p.2 + ((runN r (p.1 + 1) (p.2 + 1) + 1 : Nat) : Int), true) ::
      if runN r (p.1 + 1) (p.2 + 1) + 1 = (p :: r).length then endR N M (p.1 + ((runN r (p.1 + 1) (p.2 + 1) + 1 : Nat) : Int)) (p.2 + ((runN r (p.1 + 1) (p.2 + 1) + 1 : Nat) : Int))
      else regs N M f ((p :: r).drop (runN r (p.1 + 1) (p.2 + 1) + 1)) (p.1 + ((runN r (p.1 + 1) (p.2 + 1) + 1 : Nat) : Int)) (p.2 + ((runN r (p.1 + 1) (p.2 + 1) + 1 : Nat) : Int)) := by
  have e := runN_head p r
  obtain ⟨m, hm⟩ : ∃ m, m = runN r (p.1 + 1) (p.2 + 1) + 1 := ⟨_, rfl⟩
  rw [← hm] at e ⊢
  have key : ∀ q : Nat, q = m → (gapR N M (p :: r) i k ++ if q = 0 then [] else (p.1, p.1 + (q : Int), p.2, p.2 + (q : Int), true) :: if q = (p :: r).length then endR N M (p.1 + (q : Int)) (p.2 + (q : Int)) else regs N M f ((p :: r).drop q) (p.1 + (q : Int)) (p.2 + (q : Int))) =
      gapR N M (p :: r) i k ++ (p.1, p.1 + (m : Int), p.2, p.2 + (m : Int), true) :: if m = (p :: r).length then endR N M (p.1 + (m : Int)) (p.2 + (m : Int)) else regs N M f ((p :: r).drop m) (p.1 + (m : Int)) (p.2 + (m : Int)) := fun q hq => by
    subst hq
    rw [if_neg (show ¬ q = 0 by omega)]
  exact key _ e
def offs (L : List Reg) : Nat := (L.filter fun r => !r.2.2.2.2).length
theorem offs_append (A B : List Reg) : offs (A ++ B) = offs A + offs B := by simp [offs]
theorem offs_end (N M i k : Int) : offs (endR N M i k) = gaps N M [] i k := by
  unfold endR gaps
  split <;> simp [offs]
theorem offs_regs (N M : Int) : ∀ (f : Nat) (p : List Tok) (i k : Int), p.length < f → offs (regs N M f p i k) = gaps N M p i k
  | 0, _, _, _, h => by omega
  | f + 1, [], i, k, _ => by
    rw [regs, runN, if_pos rfl, List.append_nil]
    exact offs_end N M i k
  | f + 1, p :: r, i, k, h => by
    rw [regs_cons, offs_append]
    have hg := gaps_run N M r (p.1 + 1) (p.2 + 1)
    have hle := runN_le r (p.1 + 1) (p.2 + 1)
    obtain ⟨m, hm⟩ : ∃ m, m = runN r (p.1 + 1) (p.2 + 1) := ⟨_, rfl⟩
    rw [← hm] at hg hle ⊢
    have e1 : p.1 + 1 + (m : Int) = p.1 + ((m + 1 : Nat) : Int) := by omega
    have e2 : p.2 + 1 + (m : Int) = p.2 + ((m + 1 : Nat) : Int) := by omega
    rw [e1, e2] at hg
    have h0 : offs (gapR N M (p :: r) i k) = if i < p.1 ∨ k < p.2 then 1 else 0 := by
      show offs (if i < p.1 ∨ k < p.2 then [(i, p.1, k, p.2, false)] else []) = _
      by_cases hh : i < p.1 ∨ k < p.2
      · rw [if_pos hh, if_pos hh]; rfl
      · rw [if_neg hh, if_neg hh]; rfl
    have hcons : ∀ L : List Reg, offs ((p.1, p.1 + ((m + 1 : Nat) : Int), p.2, p.2 + ((m + 1 : Nat) : Int), true) :: L) = offs L := fun L => by simp [offs]
    rw [h0, hcons, gaps, hg]
    congr 1
    by_cases hml : m + 1 = (p :: r).length
    · rw [if_pos hml, offs_end]
      have : r.drop m = [] := List.drop_of_length_le (by simp at hml; omega)
      rw [this]
    · rw [if_neg hml, List.drop_succ_cons]
      refine offs_regs N M f _ _ _ ?_
      simp at h
      rw [List.length_drop]
      omega
/-- The score, by its changed regions. -/
def wsumL (a b : List Tok) : List Tok → Int
  | [] => 0
  | p :: r => min (wt a p.1) (wt b p.2) + wsumL a b r
theorem scoreF_gaps (a b : List Tok) (g : Int) : ∀ (p : List Tok) (n i k : Int), scoreF a b g p n i k = n - g * (gaps a.length b.length p i k : Nat) + wsumL a b p
  | [], n, i, k => by
    unfold scoreF gaps wsumL
    split <;> simp
  | p :: r, n, i, k => by
    rw [scoreF, scoreF_gaps a b g r, gaps, wsumL]
    split
    · rw [Int.natCast_add, Int.mul_add]; simp; omega
    · simp; omega
end Go.Proofs.Ytbpegoekjlehcaa
