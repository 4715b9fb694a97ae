/- What the law asks of the regions, plainly. -/
import Derived.Test.YtbpegoekjlehcaaRg
import Derived.Test.YtbpegoekjlehcaaW5
namespace Go.Proofs.Ytbpegoekjlehcaa

/-- The pairs go up from (i, k) on, within (N, M). -/
def Inc (N M : Int) : List Tok → Int → Int → Prop
  | [], i, k => i ≤ N ∧ k ≤ M
  | q :: r, i, k => i ≤ q.1 ∧ k ≤ q.2 ∧ Inc N M r (q.1 + 1) (q.2 + 1)
theorem Inc.le {N M : Int} : ∀ {p : List Tok} {i k : Int}, Inc N M p i k → i ≤ N ∧ k ≤ M
  | [], _, _, h => h
  | q :: r, i, k, ⟨h1, h2, h3⟩ => by
    have := h3.le
    omega
theorem inc_of_pairs (a b : List Tok) : ∀ (p : List Tok) (x y : Int), pairsF a b p x y = 0 → x < a.length → y < b.length → Inc a.length b.length p (x + 1) (y + 1)
  | [], x, y, _, h1, h2 => ⟨by omega, by omega⟩
  | q :: r, x, y, h, h1, h2 => by
    rw [pairsF] at h
    by_cases c1 : q.1 < 0 ∨ a.length ≤ q.1 ∨ q.2 < 0 ∨ b.length ≤ q.2
    · rw [if_pos c1] at h; omega
    · rw [if_neg c1] at h
      by_cases c2 : q.1 ≤ x ∨ q.2 ≤ y
      · rw [if_pos c2] at h; omega
      · rw [if_neg c2] at h
        by_cases c3 : ky a q.1 ≠ ky b q.2
        · rw [if_pos c3] at h; omega
        · rw [if_neg c3] at h
          exact ⟨by omega, by omega, inc_of_pairs a b r q.1 q.2 h (by omega) (by omega)⟩
theorem Inc.run {N M : Int} : ∀ {p : List Tok} {i k : Int}, Inc N M p i k → Inc N M (p.drop (runN p i k)) (i + runN p i k) (k + runN p i k)
  | [], _, _, h => by simpa [runN] using h
  | q :: r, i, k, h => by
    rw [runN]
    by_cases hq : q = (i, k)
    · subst hq
      rw [if_pos rfl, List.drop_succ_cons]
      have := h.2.2.run
      have e1 : i + 1 + ((runN r (i + 1) (k + 1) : Nat) : Int) = i + ((runN r (i + 1) (k + 1) + 1 : Nat) : Int) := by omega
      have e2 : k + 1 + ((runN r (i + 1) (k + 1) : Nat) : Int) = k + ((runN r (i + 1) (k + 1) + 1 : Nat) : Int) := by omega
      rw [← e1, ← e2]; exact this
    · rw [if_neg hq]; simpa using h
theorem runN_get : ∀ (p : List Tok) (i k : Int) (t : Nat), t < runN p i k → p[t]? = some (i + t, k + t)
  | [], _, _, _, h => by simp [runN] at h
  | q :: r, i, k, t, h => by
    rw [runN] at h
    by_cases hq : q = (i, k)
    · subst hq
      cases t with
      | zero => simp
      | succ t =>
        rw [if_pos rfl] at h
        rw [List.getElem?_cons_succ, runN_get r (i + 1) (k + 1) t (by omega)]
        congr 1
        refine Prod.ext ?_ ?_
        · show i + 1 + (t : Int) = i + ((t + 1 : Nat) : Int); omega
        · show k + 1 + (t : Int) = k + ((t + 1 : Nat) : Int); omega
    · rw [if_neg hq] at h; omega
theorem runN_stop : ∀ (p : List Tok) (i k : Int) (q : Tok) (r : List Tok), p.drop (runN p i k) = q :: r → q ≠ (i + runN p i k, k + runN p i k)
  | [], _, _, _, _, h => by simp at h
  | q' :: r', i, k, q, r, h => by
    rw [runN] at h ⊢
    by_cases hq : q' = (i, k)
    · rw [if_pos hq] at h ⊢
      rw [List.drop_succ_cons] at h
      have := runN_stop r' (i + 1) (k + 1) q r h
      have e1 : i + 1 + ((runN r' (i + 1) (k + 1) : Nat) : Int) = i + ((runN r' (i + 1) (k + 1) + 1 : Nat) : Int) := by omega
      have e2 : k + 1 + ((runN r' (i + 1) (k + 1) : Nat) : Int) = k + ((runN r' (i + 1) (k + 1) + 1 : Nat) : Int) := by omega
      rw [e1, e2] at this; exact this
    · rw [if_neg hq] at h ⊢
      rw [List.drop_zero] at h
      injection h with h1 h2
      rw [← h1]
      simpa using hq

/-- What the law asks, region by region. -/
def RegOK (N M : Int) (p : List Tok) : Option Bool → List Reg → Int → Int → Nat → Prop
  | _, [], i, j, k => i = N ∧ j = M ∧ k = p.length
  | s, x :: L, i, j, k => x.1 = i ∧ x.2.2.1 = j ∧ i ≤ x.2.1 ∧ j ≤ x.2.2.2.1 ∧ i + j < x.2.1 + x.2.2.2.1 ∧ s ≠ some x.2.2.2.2 ∧
      (x.2.2.2.2 = true → x.2.2.2.1 - j = x.2.1 - i ∧ ∀ t : Nat, (t : Int) < x.2.1 - i → p[k + t]? = some (i + t, j + t)) ∧
      (x.2.2.2.2 = false → ∀ q, p[k]? = some q → x.2.1 ≤ q.1 ∧ x.2.2.2.1 ≤ q.2) ∧
      RegOK N M p (some x.2.2.2.2) L x.2.1 x.2.2.2.1 (if x.2.2.2.2 then k + (x.2.1 - i).toNat else k)

theorem endR_ok (N M : Int) (p : List Tok) (i j : Int) (s : Option Bool) (hs : s ≠ some false) (hi : i ≤ N) (hj : j ≤ M) : RegOK N M p s (endR N M i j) i j p.length := by
  unfold endR
  by_cases h : i < N ∨ j < M
  · rw [if_pos h]
    refine ⟨rfl, rfl, hi, hj, by simp only; omega, hs, by simp, fun _ q hq => ?_, rfl, rfl, by simp⟩
    simp at hq
  · rw [if_neg h]
    exact ⟨by omega, by omega, rfl⟩

theorem regs_ok (N M : Int) (p : List Tok) : ∀ (f : Nat) (ps : List Tok) (n : Nat) (i k : Int) (s : Option Bool), ps = p.drop n → n ≤ p.length → ps.length < f → Inc N M ps i k →
    (s = none ∨ (s = some true ∧ ∃ q r, ps = q :: r ∧ q ≠ (i, k))) → RegOK N M p s (regs N M f ps i k) i k n
  | 0, _, _, _, _, _, _, _, h, _, _ => by omega
  | f + 1, [], n, i, k, s, hd, hn, _, hI, hs => by
    have hs0 : s = none := by
      rcases hs with h | ⟨_, q, r, h, _⟩
      · exact h
      · cases h
    have hnl : n = p.length := by
      have := congrArg List.length hd
      rw [List.length_drop] at this
      simp at this
      omega
    rw [regs, runN, if_pos rfl, List.append_nil, hnl, hs0]
    exact endR_ok N M p i k none (by simp) hI.1 hI.2
  | f + 1, q :: r, n, i, k, s, hd, hn, hf, hI, hs => by
    rw [regs_cons]
    have hrun := hI.2.2.run
    have hle := runN_le r (q.1 + 1) (q.2 + 1)
    have hget := runN_get (q :: r) q.1 q.2
    have hstop := runN_stop (q :: r) q.1 q.2
    rw [runN_head] at hget hstop
    obtain ⟨m, hm⟩ : ∃ m, m = runN r (q.1 + 1) (q.2 + 1) := ⟨_, rfl⟩
    rw [← hm] at hrun hle hget hstop ⊢
    have hpn : ∀ t : Nat, p[n + t]? = (q :: r)[t]? := fun t => by rw [hd, List.getElem?_drop]
    have hI' := hI
    obtain ⟨h1, h2, h3⟩ := hI'
    have e1 : q.1 + 1 + (m : Int) = q.1 + ((m + 1 : Nat) : Int) := by omega
    have e2 : q.2 + 1 + (m : Int) = q.2 + ((m + 1 : Nat) : Int) := by omega
    rw [e1, e2] at hrun
    have hlen : (q :: r).length = p.length - n := by rw [hd, List.length_drop]
    -- the region of the matched ones, and what comes behind it
    have hsame : ∀ s' : Option Bool, s' ≠ some true → RegOK N M p s'
        ((q.1, q.1 + ((m + 1 : Nat) : Int), q.2, q.2 + ((m + 1 : Nat) : Int), true) :: if m + 1 = (q :: r).length then endR N M (q.1 + ((m + 1 : Nat) : Int)) (q.2 + ((m + 1 : Nat) : Int))
          else regs N M f ((q :: r).drop (m + 1)) (q.1 + ((m + 1 : Nat) : Int)) (q.2 + ((m + 1 : Nat) : Int))) q.1 q.2 n := fun s' hs' => by
      refine ⟨rfl, rfl, by simp only; omega, by simp only; omega, by simp only; omega, hs', fun _ => ⟨by simp only; omega, fun t ht => ?_⟩, by simp, ?_⟩
      · rw [hpn]; simp only at ht; exact hget t (by omega)
      · have en : (if true = true then n + (q.1 + ((m + 1 : Nat) : Int) - q.1).toNat else n) = n + (m + 1) := by rw [if_pos rfl]; omega
        show RegOK N M p (some true) _ (q.1 + ((m + 1 : Nat) : Int)) (q.2 + ((m + 1 : Nat) : Int)) (if true = true then n + (q.1 + ((m + 1 : Nat) : Int) - q.1).toNat else n)
        rw [en]
        by_cases hml : m + 1 = (q :: r).length
        · rw [if_pos hml]
          have hnp : n + (m + 1) = p.length := by omega
          rw [hnp]
          exact endR_ok N M p _ _ _ (by simp) hrun.le.1 hrun.le.2
        · rw [if_neg hml]
          have hmle : m + 1 < (q :: r).length := by simp at hml ⊢; omega
          refine regs_ok N M p f _ (n + (m + 1)) _ _ (some true) ?_ (by omega) ?_ ?_ (.inr ⟨rfl, ?_⟩)
          · rw [hd, List.drop_drop]
          · rw [List.length_drop]; omega
          · rw [List.drop_succ_cons]; exact hrun
          · cases hdr : (q :: r).drop (m + 1) with
            | nil =>
              have := congrArg List.length hdr
              rw [List.length_drop] at this
              simp at this hmle
              omega
            | cons q' r' => exact ⟨q', r', rfl, hstop q' r' hdr⟩
    show RegOK N M p s ((if i < q.1 ∨ k < q.2 then [(i, q.1, k, q.2, false)] else []) ++ _) i k n
    by_cases hg : i < q.1 ∨ k < q.2
    · rw [if_pos hg]
      refine ⟨rfl, rfl, h1, h2, by simp only; omega, ?_, by simp, fun _ q' hq' => ?_, hsame (some false) (by simp)⟩
      · rcases hs with h | ⟨h, _⟩ <;> rw [h] <;> simp
      · have := hpn 0
        rw [Nat.add_zero] at this
        rw [this] at hq'
        simp at hq'
        subst hq'
        exact ⟨Int.le_refl _, Int.le_refl _⟩
    · rw [if_neg hg, List.nil_append]
      have hiq : q.1 = i := by omega
      have hkq : q.2 = k := by omega
      have hs0 : s = none := by
        rcases hs with h | ⟨_, q', r', h, hne⟩
        · exact h
        · injection h with h _
          subst h
          exact absurd (Prod.ext hiq hkq) hne
      have := hsame s (by rw [hs0]; simp)
      rw [hiq, hkq] at this ⊢
      exact this
theorem regs_length (N M : Int) : ∀ (f : Nat) (p : List Tok) (i k : Int), p.length < f → (regs N M f p i k).length ≤ 2 * p.length + 1
  | 0, _, _, _, h => by omega
  | f + 1, [], i, k, _ => by
    rw [regs, runN, if_pos rfl, List.append_nil]
    unfold gapR; split <;> simp
  | f + 1, q :: r, i, k, h => by
    rw [regs_cons, List.length_append, List.length_cons]
    have h0 : (gapR N M (q :: r) i k).length ≤ 1 := by unfold gapR; split <;> simp
    obtain ⟨m, hm⟩ : ∃ m, m = runN r (q.1 + 1) (q.2 + 1) := ⟨_, rfl⟩
    rw [← hm]
    by_cases hml : m + 1 = (q :: r).length
    · rw [if_pos hml]
      have : (endR N M (q.1 + ((m + 1 : Nat) : Int)) (q.2 + ((m + 1 : Nat) : Int))).length ≤ 1 := by unfold endR; split <;> simp
      rw [List.length_cons] at hml ⊢
      omega
    · rw [if_neg hml]
      have hle := runN_le r (q.1 + 1) (q.2 + 1)
      rw [← hm] at hle
      have := regs_length N M f ((q :: r).drop (m + 1)) (q.1 + ((m + 1 : Nat) : Int)) (q.2 + ((m + 1 : Nat) : Int)) (by rw [List.length_drop]; simp at h ⊢; omega)
      rw [List.length_drop] at this
      rw [List.length_cons] at this hml ⊢
      omega
end Go.Proofs.Ytbpegoekjlehcaa
