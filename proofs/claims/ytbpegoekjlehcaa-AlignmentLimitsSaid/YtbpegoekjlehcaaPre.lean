/- With the gap 0 and all weights 1 a common prefix and a common suffix add their lengths; no program in sight. -/
import Derived.Test.YtbpegoekjlehcaaOpt3
namespace Go.Proofs.Ytbpegoekjlehcaa

/-- All weights are 1. -/
def One (l : List Tok) : Prop := ∀ t ∈ l, t.2 = 1
theorem One.ok {l : List Tok} (h : One l) : WOk l := fun t ht => by have := h t ht; omega
/-- The first 20 tokens, with the weight 1. -/
def ones (l : List Tok) : List Tok := (l.take 20).map fun t => (t.1, 1)
theorem ones_one (l : List Tok) : One (ones l) := fun t ht => by
  obtain ⟨u, _, rfl⟩ := List.mem_map.1 ht
  rfl
theorem ones_length (l : List Tok) : (ones l).length ≤ 20 := by unfold ones; rw [List.length_map, List.length_take]; omega
theorem One.append {a b : List Tok} (ha : One a) (hb : One b) : One (a ++ b) := fun t ht => by
  rcases List.mem_append.1 ht with h | h
  · exact ha t h
  · exact hb t h

def lcs (a b : List Tok) (s : Nat) : Int := (optC 0 a b s).1
theorem opn0 (s : Nat) : opn 0 s = 0 := by unfold opn; split <;> rfl
theorem lcs_nilA (b : List Tok) (s : Nat) : lcs [] b s = 0 := by
  induction b generalizing s with
  | nil => unfold lcs; rw [optC]
  | cons y ys ih => unfold lcs at *; rw [optC, opn0, ih]; rfl
theorem lcs_nilB (a : List Tok) (s : Nat) : lcs a [] s = 0 := by
  induction a generalizing s with
  | nil => unfold lcs; rw [optC]
  | cons y ys ih => unfold lcs at *; rw [optC, opn0, ih]; rfl
theorem lcs_cons (x y : Tok) (xs ys : List Tok) (s : Nat) : lcs (x :: xs) (y :: ys) s = (best3 (lcs xs (y :: ys) 1) (lcs (x :: xs) ys 1) (x.1 == y.1) (lcs xs ys 0 + min x.2 y.2)).1 := by
  unfold lcs; rw [optC, opn0, Int.sub_zero, Int.sub_zero]
/-- Whether a region was begun makes no difference. -/
theorem lcs_any (a b : List Tok) (s t : Nat) : lcs a b s = lcs a b t := by
  cases a with
  | nil => rw [lcs_nilA, lcs_nilA]
  | cons x xs =>
    cases b with
    | nil => rw [lcs_nilB, lcs_nilB]
    | cons y ys => rw [lcs_cons, lcs_cons]
theorem lcs_leA (x : Tok) (a b : List Tok) : lcs a b 0 ≤ lcs (x :: a) b 0 := by
  cases b with
  | nil => rw [lcs_nilB, lcs_nilB]; exact Int.le_refl _
  | cons y ys => rw [lcs_cons, lcs_any a (y :: ys) 0 1]; exact (best3_ge _ _ _ _).1
theorem lcs_leB (y : Tok) (a b : List Tok) : lcs a b 0 ≤ lcs a (y :: b) 0 := by
  cases a with
  | nil => rw [lcs_nilA, lcs_nilA]; exact Int.le_refl _
  | cons x xs => rw [lcs_cons, lcs_any (x :: xs) b 0 1]; exact (best3_ge _ _ _ _).2.1
theorem best3_le {n m q c : Int} {eq : Bool} (h1 : n ≤ c) (h2 : m ≤ c) (h3 : q ≤ c) : (best3 n m eq q).1 ≤ c := by
  rw [best3_fst]
  repeat' split
  all_goals first | exact h1 | exact h2 | exact h3
theorem lcs_upB (y : Tok) (hy : y.2 = 1) : ∀ (a b : List Tok), lcs a (y :: b) 0 ≤ lcs a b 0 + 1
  | [], b => by rw [lcs_nilA, lcs_nilA]; omega
  | x :: xs, b => by
    have ih := lcs_upB y hy xs b
    have h1 := lcs_leA x xs b
    have hm : min x.2 y.2 ≤ 1 := by have := Int.min_le_right x.2 y.2; omega
    rw [lcs_cons, lcs_any xs (y :: b) 1 0, lcs_any (x :: xs) b 1 0]
    exact best3_le (by omega) (by omega) (by omega)
theorem lcs_upA (x : Tok) (hx : x.2 = 1) (a : List Tok) : ∀ (b : List Tok), lcs (x :: a) b 0 ≤ lcs a b 0 + 1
  | [] => by rw [lcs_nilB, lcs_nilB]; omega
  | y :: ys => by
    have ih := lcs_upA x hx a ys
    have h1 := lcs_leB y a ys
    have hm : min x.2 y.2 ≤ 1 := by have := Int.min_le_left x.2 y.2; omega
    rw [lcs_cons, lcs_any a (y :: ys) 1 0, lcs_any (x :: a) ys 1 0]
    exact best3_le (by omega) (by omega) (by omega)
theorem lcs_same (c : Tok) (hc : c.2 = 1) (a b : List Tok) : lcs (c :: a) (c :: b) 0 = lcs a b 0 + 1 := by
  have hm : min c.2 c.2 = 1 := by rw [Int.min_self]; exact hc
  refine Int.le_antisymm ?_ ?_
  · have h1 := lcs_upB c hc a b
    have h2 := lcs_upA c hc a b
    rw [lcs_cons, lcs_any a (c :: b) 1 0, lcs_any (c :: a) b 1 0]
    exact best3_le (by omega) (by omega) (by omega)
  · rw [lcs_cons]
    have := (best3_ge (lcs a (c :: b) 1) (lcs (c :: a) b 1) (c.1 == c.1) (lcs a b 0 + min c.2 c.2)).2.2 (by simp)
    omega
theorem lcs_front (a b : List Tok) : ∀ (f : List Tok), One f → lcs (f ++ a) (f ++ b) 0 = lcs a b 0 + f.length
  | [], _ => by simp
  | c :: f, h => by
    rw [List.cons_append, List.cons_append, lcs_same c (h c (by simp)), lcs_front a b f (fun t ht => h t (by simp [ht])), List.length_cons]
    omega
theorem lcs_rev {a b : List Tok} (ha : WOk a) (hb : WOk b) : lcs a.reverse b.reverse 0 = lcs a b 0 := by
  have := oT_rev (g := 0) (Int.le_refl _) ha hb
  simpa [oT, lcs] using this
theorem lcs_back {a b r : List Tok} (ha : One a) (hb : One b) (hr : One r) : lcs (a ++ r) (b ++ r) 0 = lcs a b 0 + r.length := by
  rw [← lcs_rev (ha.append hr).ok (hb.append hr).ok, List.reverse_append, List.reverse_append, lcs_front _ _ r.reverse (fun t ht => hr t (by simpa using ht)), lcs_rev ha.ok hb.ok, List.length_reverse]
/-- The law's plain side. -/
theorem oT_prefixes {a b f r : List Tok} (ha : One a) (hb : One b) (hf : One f) (hr : One r) : oT 0 (f ++ a ++ r) (f ++ b ++ r) 0 0 0 = oT 0 a b 0 0 0 + f.length + r.length := by
  have h1 := lcs_back (hf.append ha) (hf.append hb) hr
  have h2 := lcs_front a b f hf
  simp only [oT, List.drop_zero]
  unfold lcs at h1 h2
  omega
theorem bothL_of {a b : List Tok} (ha : WOk a) (hb : WOk b) (hal : a.length ≤ 2048) (hbl : b.length ≤ 2048) : bothL a b = 0 := by
  have h : ∀ {l : List Tok}, WOk l → l.length ≤ 2048 → checkL l = 0 := fun {l} hw hl => by
    unfold checkL; rw [if_neg (by omega)]; exact (chk_zero l).2 hw
  unfold bothL
  rw [if_pos (h ha hal)]
  exact h hb hbl
end Go.Proofs.Ytbpegoekjlehcaa
