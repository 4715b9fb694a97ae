/- Exchanging, reversing and doubling lists; no program in sight. -/
import Derived.Test.YtbpegoekjlehcaaOpt2
namespace Go.Proofs.Ytbpegoekjlehcaa

section
variable {g : Int} {a b : List Tok}
def swp (p : Tok) : Tok := (p.2, p.1)
theorem score_swap : ∀ (P : List Tok) (n i j : Int), scoreF a b g P n i j = scoreF b a g (P.map swp) n j i
  | [], n, i, j => by
    simp only [scoreF, List.map_nil]
    by_cases h : i < a.length ∨ j < b.length
    · rw [if_pos h, if_pos h.symm]
    · rw [if_neg h, if_neg (fun h' => h h'.symm)]
  | p :: r, n, i, j => by
    simp only [scoreF, List.map_cons, swp]
    rw [score_swap r, Int.min_comm]
    by_cases h : i < p.1 ∨ j < p.2
    · rw [if_pos h, if_pos h.symm]
    · rw [if_neg h, if_neg (fun h' => h h'.symm)]
theorem valid_swap : ∀ {P : List Tok} {i k : Nat}, Valid a b P i k → Valid b a (P.map swp) k i
  | [], _, _, _ => trivial
  | p :: r, _, _, ⟨x, y, h1, h2, h3, ⟨hx, hy, he⟩, h5⟩ => ⟨y, x, by rw [h1]; rfl, h3, h2, ⟨hy, hx, he.symm⟩, valid_swap h5⟩
theorem oT_swap_le (hg : 0 ≤ g) (ha : WOk a) (hb : WOk b) : oT g a b 0 0 0 ≤ oT g b a 0 0 0 := by
  rw [← align_score (g := g) (a := a) (b := b), scoreL, score_swap]
  exact valid_le hg hb ha (valid_swap align_valid)
theorem oT_swap (hg : 0 ≤ g) (ha : WOk a) (hb : WOk b) : oT g a b 0 0 0 = oT g b a 0 0 0 :=
  Int.le_antisymm (oT_swap_le hg ha hb) (oT_swap_le hg hb ha)

/-- A sum over neighbours. -/
def adj (f : Tok → Tok → Int) : List Tok → Int
  | p :: q :: r => f p q + adj f (q :: r)
  | _ => 0
theorem adj_snoc (f : Tok → Tok → Int) : ∀ (l : List Tok) (y x : Tok), adj f (l ++ [y, x]) = adj f (l ++ [y]) + f y x
  | [], y, x => by simp [adj]
  | [p], y, x => by simp [adj]
  | p :: q :: r, y, x => by
    have := adj_snoc f (q :: r) y x
    simp only [List.cons_append, adj] at this ⊢
    omega
theorem adj_reverse (f : Tok → Tok → Int) : ∀ (l : List Tok), adj f l.reverse = adj (fun p q => f q p) l
  | [] => rfl
  | [p] => rfl
  | p :: q :: r => by
    have ih := adj_reverse f (q :: r)
    rw [List.reverse_cons, List.reverse_cons, List.append_assoc]
    show adj f (r.reverse ++ [q, p]) = _
    rw [adj_snoc, ← List.reverse_cons, ih]
    simp only [adj]; omega
theorem adj_map (f : Tok → Tok → Int) (φ : Tok → Tok) : ∀ (l : List Tok), adj f (l.map φ) = adj (fun p q => f (φ p) (φ q)) l
  | [] => rfl
  | [p] => rfl
  | p :: q :: r => by
    have ih := adj_map f φ (q :: r)
    simp only [List.map_cons, adj] at ih ⊢
    rw [ih]
theorem adj_congr {f h : Tok → Tok → Int} (e : ∀ p q, f p q = h p q) (l : List Tok) : adj f l = adj h l := by
  have : f = h := funext fun p => funext fun q => e p q
  rw [this]
def gapI (p q : Tok) : Int := if p.1 + 1 < q.1 ∨ p.2 + 1 < q.2 then 1 else 0
def wsum (a b : List Tok) : List Tok → Int
  | [] => 0
  | p :: r => min (wt a p.1) (wt b p.2) + wsum a b r
theorem wsum_append : ∀ (l r : List Tok), wsum a b (l ++ r) = wsum a b l + wsum a b r
  | [], r => by simp [wsum]
  | p :: l, r => by simp only [List.cons_append, wsum, wsum_append l r]; omega
theorem score_adj : ∀ (P : List Tok) (n i j : Int), scoreF a b g P n i j = n + wsum a b P - g * adj gapI ((i - 1, j - 1) :: P ++ [((a.length : Int), (b.length : Int))])
  | [], n, i, j => by
    simp only [scoreF, wsum, List.nil_append, List.cons_append, adj, gapI]
    by_cases h : i < a.length ∨ j < b.length
    · rw [if_pos h, if_pos (by omega)]; omega
    · rw [if_neg h, if_neg (by omega)]; omega
  | p :: r, n, i, j => by
    simp only [scoreF, wsum, List.cons_append, adj]
    rw [score_adj r]
    have e : ((p.1 + 1 - 1, p.2 + 1 - 1) : Tok) = p := Prod.ext (by simp) (by simp)
    rw [e]
    simp only [List.cons_append]
    rw [Int.mul_add]
    have h1 : gapI (i - 1, j - 1) p = if i < p.1 ∨ j < p.2 then 1 else 0 := by
      unfold gapI
      by_cases h : i < p.1 ∨ j < p.2
      · rw [if_pos h, if_pos (by simp only; omega)]
      · rw [if_neg h, if_neg (by simp only; omega)]
    rw [h1]
    by_cases h : i < p.1 ∨ j < p.2
    · rw [if_pos h, if_pos h]; omega
    · rw [if_neg h, if_neg h]; omega

/-- Alignments by what holds of each pair and of any two. -/
def Fit (a b : List Tok) (p : Tok) : Prop := ∃ x y : Nat, p = ((x : Int), (y : Int)) ∧ ∃ (hx : x < a.length) (hy : y < b.length), a[x].1 = b[y].1
theorem valid_iff : ∀ {P : List Tok} {i k : Nat}, Valid a b P i k ↔ (∀ p ∈ P, Fit a b p ∧ (i : Int) ≤ p.1 ∧ (k : Int) ≤ p.2) ∧ P.Pairwise (fun p q => p.1 < q.1 ∧ p.2 < q.2)
  | [], i, k => by simp [Valid]
  | p :: r, i, k => by
    constructor
    · rintro ⟨x, y, rfl, h2, h3, h4, h5⟩
      obtain ⟨g1, g2⟩ := valid_iff.1 h5
      refine ⟨fun q hq => ?_, List.pairwise_cons.2 ⟨fun q hq => ?_, g2⟩⟩
      · rcases List.mem_cons.1 hq with rfl | hq
        · exact ⟨⟨x, y, rfl, h4⟩, by simp only; omega, by simp only; omega⟩
        · obtain ⟨f1, f2, f3⟩ := g1 q hq
          exact ⟨f1, by omega, by omega⟩
      · obtain ⟨_, f2, f3⟩ := g1 q hq
        simp only
        omega
    · rintro ⟨h1, h2⟩
      obtain ⟨⟨x, y, rfl, h4⟩, h5, h6⟩ := h1 p (by simp)
      obtain ⟨p1, p2⟩ := List.pairwise_cons.1 h2
      simp only at h5 h6
      refine ⟨x, y, rfl, by omega, by omega, h4, valid_iff.2 ⟨fun q hq => ?_, p2⟩⟩
      have := p1 q hq
      simp only at this
      exact ⟨(h1 q (by simp [hq])).1, by omega, by omega⟩

def flp (N M : Int) (p : Tok) : Tok := (N - 1 - p.1, M - 1 - p.2)
theorem fit_rev {p : Tok} (h : Fit a b p) : Fit a.reverse b.reverse (flp a.length b.length p) := by
  obtain ⟨x, y, rfl, hx, hy, he⟩ := h
  refine ⟨a.length - 1 - x, b.length - 1 - y, ?_, by simp; omega, by simp; omega, ?_⟩
  · simp only [flp]
    exact Prod.ext (by simp only; omega) (by simp only; omega)
  · rw [List.getElem_reverse, List.getElem_reverse]
    have e1 : a.length - 1 - (a.length - 1 - x) = x := by omega
    have e2 : b.length - 1 - (b.length - 1 - y) = y := by omega
    simp only [e1, e2]
    exact he
theorem wt_rev {l : List Tok} (x : Nat) (h : x < l.length) : wt l.reverse ((l.length : Int) - 1 - x) = wt l x := by
  have e : ((l.length : Int) - 1 - x) = ((l.length - 1 - x : Nat) : Int) := by omega
  rw [e, wt_at _ _ (by simp; omega), wt_at _ _ h, List.getElem_reverse]
  have e1 : l.length - 1 - (l.length - 1 - x) = x := by omega
  simp only [e1]
theorem wsum_rev : ∀ (P : List Tok), (∀ p ∈ P, Fit a b p) → wsum a.reverse b.reverse ((P.map (flp a.length b.length)).reverse) = wsum a b P
  | [], _ => rfl
  | p :: r, h => by
    obtain ⟨x, y, rfl, hx, hy, _⟩ := h p (by simp)
    rw [List.map_cons, List.reverse_cons, wsum_append, wsum_rev r (fun q hq => h q (by simp [hq]))]
    simp only [wsum, flp]
    rw [wt_rev x hx, wt_rev y hy]
    omega
theorem score_rev {P : List Tok} (h : ∀ p ∈ P, Fit a b p) : scoreL a.reverse b.reverse g ((P.map (flp a.length b.length)).reverse) = scoreL a b g P := by
  unfold scoreL
  rw [score_adj, score_adj, wsum_rev P h]
  have e : (((0 : Int) - 1, (0 : Int) - 1) : Tok) :: (P.map (flp a.length b.length)).reverse ++ [((a.reverse.length : Int), (b.reverse.length : Int))] =
      ((((0 : Int) - 1, (0 : Int) - 1) :: P ++ [((a.length : Int), (b.length : Int))]).map (flp a.length b.length)).reverse := by
    have e1 : (a.length : Int) - 1 - (0 - 1) = a.length := by omega
    have e2 : (b.length : Int) - 1 - (0 - 1) = b.length := by omega
    have e3 : (a.length : Int) - 1 - a.length = 0 - 1 := by omega
    have e4 : (b.length : Int) - 1 - b.length = 0 - 1 := by omega
    simp only [List.map_append, List.map_cons, List.map_nil, List.reverse_append, List.reverse_cons, List.reverse_nil, List.nil_append, List.cons_append, List.length_reverse, flp, e1, e2, e3, e4]
  rw [e, adj_reverse, adj_map]
  congr 2
  refine adj_congr (fun p q => ?_) _
  unfold gapI flp
  by_cases h : p.1 + 1 < q.1 ∨ p.2 + 1 < q.2
  · rw [if_pos h, if_pos (by simp only; omega)]
  · rw [if_neg h, if_neg (by simp only; omega)]
theorem valid_rev {P : List Tok} (h : Valid a b P 0 0) : Valid a.reverse b.reverse ((P.map (flp a.length b.length)).reverse) 0 0 := by
  obtain ⟨h1, h2⟩ := valid_iff.1 h
  refine valid_iff.2 ⟨fun p hp => ?_, ?_⟩
  · rw [List.mem_reverse, List.mem_map] at hp
    obtain ⟨q, hq, rfl⟩ := hp
    obtain ⟨f1, _, _⟩ := h1 q hq
    refine ⟨fit_rev f1, ?_, ?_⟩
    · obtain ⟨x, y, rfl, hx, hy, _⟩ := f1
      simp only [flp]; omega
    · obtain ⟨x, y, rfl, hx, hy, _⟩ := f1
      simp only [flp]; omega
  · rw [List.pairwise_reverse, List.pairwise_map]
    refine h2.imp fun {p q} hpq => ?_
    simp only [flp]
    omega
theorem oT_rev_le (hg : 0 ≤ g) (ha : WOk a) (hb : WOk b) : oT g a b 0 0 0 ≤ oT g a.reverse b.reverse 0 0 0 := by
  rw [← align_score (g := g) (a := a) (b := b), ← score_rev (fun p hp => ((valid_iff.1 align_valid).1 p hp).1)]
  exact valid_le hg (fun t ht => ha t (by simpa using ht)) (fun t ht => hb t (by simpa using ht)) (valid_rev align_valid)
theorem oT_rev (hg : 0 ≤ g) (ha : WOk a) (hb : WOk b) : oT g a.reverse b.reverse 0 0 0 = oT g a b 0 0 0 := by
  have h := oT_rev_le hg (a := a.reverse) (b := b.reverse) (fun t ht => ha t (by simpa using ht)) (fun t ht => hb t (by simpa using ht))
  rw [List.reverse_reverse, List.reverse_reverse] at h
  exact Int.le_antisymm h (oT_rev_le hg ha hb)

/-- A list with itself. -/
theorem oT_self (hg : 0 ≤ g) (ha : WOk a) : ∀ (d i : Nat), a.length - i ≤ d → i ≤ a.length → sumL (a.drop i) ≤ oT g a a i i 0 := by
  intro d
  induction d with
  | zero =>
    intro i h hi
    obtain rfl : i = a.length := by omega
    rw [List.drop_length, oT_end]; exact Int.le_refl _
  | succ d ih =>
    intro i h hi
    rcases Nat.lt_or_ge i a.length with hlt | hge
    · have h1 := ih (i + 1) (by omega) hlt
      have h2 := oT_match (g := g) (a := a) (b := a) 0 hlt hlt rfl
      rw [List.drop_eq_getElem_cons hlt, sumL]
      rw [Int.min_self] at h2
      omega
    · obtain rfl : i = a.length := by omega
      rw [List.drop_length, oT_end]; exact Int.le_refl _
theorem oT_upper (hg : 0 ≤ g) (ha : WOk a) (hb : WOk b) (i k s : Nat) : oT g a b i k s ≤ sumL (a.drop i) :=
  (optC_bound g hg (a.drop i) (b.drop k) s (fun t ht => ha t (List.mem_of_mem_drop ht)) (fun t ht => hb t (List.mem_of_mem_drop ht))).2
theorem path_self (hg : 0 ≤ g) (ha : WOk a) : ∀ (d i : Nat), a.length - i ≤ d → i ≤ a.length → (pathP g (a.drop i) (a.drop i) 0 i i).length = a.length - i := by
  intro d
  induction d with
  | zero =>
    intro i h hi
    rw [pathP_nil g a a i i 0 (by omega)]
    simp; omega
  | succ d ih =>
    intro i h hi
    rcases Nat.lt_or_ge i a.length with hlt | hge
    · have h1 := oT_self hg ha _ (i + 1) (Nat.le_refl _) hlt
      have hsum : sumL (a.drop i) = a[i].2 + sumL (a.drop (i + 1)) := by rw [List.drop_eq_getElem_cons hlt, sumL]
      have hw := ha a[i] (by simp)
      have hc : cT g a a i i 0 = 1 := by
        show (optC g (a.drop i) (a.drop i) 0).2 = 1
        rw [optC_both g a a i i 0 hlt hlt, Int.min_self, best3, if_pos]
        refine ⟨by simp, ?_⟩
        have h2 := oT_upper hg ha ha (i + 1) i 1
        have h3 := oT_upper hg ha ha i (i + 1) 1
        rw [opn_zero]
        split <;> omega
      rw [pathP_step g a a i i 0 hlt hlt, if_pos hc, List.length_cons, ih (i + 1) (by omega) hlt]
      omega
    · rw [pathP_nil g a a i i 0 (by omega)]
      simp; omega
theorem align_self (hg : 0 ≤ g) (ha : WOk a) : (alignL a a g).length = a.length := by
  have := path_self hg ha _ 0 (Nat.le_refl _) (Nat.zero_le _)
  simpa [alignL] using this
end
end Go.Proofs.Ytbpegoekjlehcaa
