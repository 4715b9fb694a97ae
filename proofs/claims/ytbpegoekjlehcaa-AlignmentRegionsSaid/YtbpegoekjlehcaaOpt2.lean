/- The canonical alignment is one, it has the greatest score, and no other alignment has a greater one; no program in sight. -/
import Derived.Test.YtbpegoekjlehcaaOpt
namespace Go.Proofs.Ytbpegoekjlehcaa

theorem best3_ge (n m : Int) (eq : Bool) (q : Int) : n ≤ (best3 n m eq q).1 ∧ m ≤ (best3 n m eq q).1 ∧ (eq = true → q ≤ (best3 n m eq q).1) := by
  rw [best3_fst]
  by_cases h : n < m
  · simp only [if_pos h]
    by_cases h' : eq = true ∧ m ≤ q
    · rw [if_pos h']; omega
    · rw [if_neg h']
      exact ⟨by omega, by omega, fun he => by have : ¬ m ≤ q := fun hq => h' ⟨he, hq⟩; omega⟩
  · simp only [if_neg h]
    by_cases h' : eq = true ∧ n ≤ q
    · rw [if_pos h']; omega
    · rw [if_neg h']
      exact ⟨by omega, by omega, fun he => by have : ¬ n ≤ q := fun hq => h' ⟨he, hq⟩; omega⟩

section
variable {g : Int} {a b : List Tok}
theorem oT_end (s : Nat) : oT g a b a.length b.length s = 0 := by unfold oT; rw [optC_end]
theorem oT_left {i k : Nat} (s : Nat) (hi : i < a.length) (hk : k ≤ b.length) : oT g a b (i + 1) k 1 - opn g s ≤ oT g a b i k s := by
  rcases Nat.lt_or_ge k b.length with h | h
  · show _ ≤ (optC g (a.drop i) (b.drop k) s).1
    rw [optC_both g a b i k s hi h]
    exact (best3_ge _ _ _ _).1
  · obtain rfl : k = b.length := by omega
    show _ ≤ (optC g (a.drop i) (b.drop b.length) s).1
    rw [optC_left g a b i s hi]
    exact Int.le_refl _
theorem oT_right {i k : Nat} (s : Nat) (hi : i ≤ a.length) (hk : k < b.length) : oT g a b i (k + 1) 1 - opn g s ≤ oT g a b i k s := by
  rcases Nat.lt_or_ge i a.length with h | h
  · show _ ≤ (optC g (a.drop i) (b.drop k) s).1
    rw [optC_both g a b i k s h hk]
    exact (best3_ge _ _ _ _).2.1
  · obtain rfl : i = a.length := by omega
    show _ ≤ (optC g (a.drop a.length) (b.drop k) s).1
    rw [optC_nil g a b k s hk]
    exact Int.le_refl _
theorem oT_match {i k : Nat} (s : Nat) (hi : i < a.length) (hk : k < b.length) (he : a[i].1 = b[k].1) : oT g a b (i + 1) (k + 1) 0 + min a[i].2 b[k].2 ≤ oT g a b i k s := by
  show _ ≤ (optC g (a.drop i) (b.drop k) s).1
  rw [optC_both g a b i k s hi hk]
  exact (best3_ge _ _ _ _).2.2 (by simp [he])
theorem opn_one : opn g 1 = 0 := rfl
theorem opn_zero : opn g 0 = g := rfl
/-- Within a changed region nothing costs. -/
theorem oT_skipA : ∀ (d i k : Nat), i + d ≤ a.length → k ≤ b.length → oT g a b (i + d) k 1 ≤ oT g a b i k 1
  | 0, i, k, _, _ => Int.le_refl _
  | d + 1, i, k, h, hk => by
    have h1 := oT_left (g := g) (a := a) (b := b) (i := i) (k := k) 1 (by omega) hk
    have h2 := oT_skipA d (i + 1) k (by omega) hk
    rw [show i + (d + 1) = i + 1 + d from by omega]
    rw [opn_one] at h1
    omega
theorem oT_skipB : ∀ (d i k : Nat), i ≤ a.length → k + d ≤ b.length → oT g a b i (k + d) 1 ≤ oT g a b i k 1
  | 0, i, k, _, _ => Int.le_refl _
  | d + 1, i, k, h, hk => by
    have h1 := oT_right (g := g) (a := a) (b := b) (i := i) (k := k) 1 h (by omega)
    have h2 := oT_skipB d i (k + 1) h (by omega)
    rw [show k + (d + 1) = k + 1 + d from by omega]
    rw [opn_one] at h1
    omega
theorem oT_skip {i k p q : Nat} (hi : i ≤ p) (hk : k ≤ q) (hp : p ≤ a.length) (hq : q ≤ b.length) : oT g a b p q 1 ≤ oT g a b i k 1 := by
  have h1 := oT_skipA (g := g) (a := a) (b := b) (p - i) i k (by omega) (by omega)
  have h2 := oT_skipB (g := g) (a := a) (b := b) (q - k) p k (by omega) (by omega)
  rw [show i + (p - i) = p from by omega] at h1
  rw [show k + (q - k) = q from by omega] at h2
  omega
/-- A changed region costs once. -/
theorem oT_gap {i k p q : Nat} (hi : i ≤ p) (hk : k ≤ q) (hp : p ≤ a.length) (hq : q ≤ b.length) (hne : i < p ∨ k < q) : oT g a b p q 1 - g ≤ oT g a b i k 0 := by
  rcases hne with h | h
  · have h1 := oT_left (g := g) (a := a) (b := b) (i := i) (k := k) 0 (by omega) (by omega)
    have h2 := oT_skip (g := g) (a := a) (b := b) (i := i + 1) (k := k) (p := p) (q := q) (by omega) hk hp hq
    rw [opn_zero] at h1
    omega
  · have h1 := oT_right (g := g) (a := a) (b := b) (i := i) (k := k) 0 (by omega) (by omega)
    have h2 := oT_skip (g := g) (a := a) (b := b) (i := i) (k := k + 1) (p := p) (q := q) hi (by omega) hp hq
    rw [opn_zero] at h1
    omega

/-- An alignment behind two indices. -/
def Valid (a b : List Tok) : List Tok → Nat → Nat → Prop
  | [], _, _ => True
  | p :: r, i, k => ∃ x y : Nat, p = ((x : Int), (y : Int)) ∧ i ≤ x ∧ k ≤ y ∧ (∃ (hx : x < a.length) (hy : y < b.length), a[x].1 = b[y].1) ∧ Valid a b r (x + 1) (y + 1)

theorem Valid.mono : ∀ {P : List Tok} {i k i' k' : Nat}, Valid a b P i k → i' ≤ i → k' ≤ k → Valid a b P i' k'
  | [], _, _, _, _, _, _, _ => trivial
  | _ :: _, _, _, _, _, ⟨x, y, h1, h2, h3, h4, h5⟩, hi, hk => ⟨x, y, h1, by omega, by omega, h4, h5⟩
theorem Valid.inR : ∀ {P : List Tok} {i k : Nat}, Valid a b P i k → InR a b P
  | [], _, _, _ => fun q hq => by simp at hq
  | p :: r, _, _, ⟨x, y, h1, h2, h3, ⟨hx, hy, _⟩, h5⟩ => fun q hq => by
    rcases List.mem_cons.1 hq with rfl | hq
    · subst h1
      exact ⟨by simp, by simpa using hx, by simp, by simpa using hy⟩
    · exact h5.inR q hq
theorem Valid.length : ∀ {P : List Tok} {i k : Nat}, Valid a b P i k → i ≤ a.length → P.length + i ≤ a.length
  | [], _, _, _, hi => by simpa using hi
  | p :: r, i, k, ⟨x, y, h1, h2, h3, ⟨hx, hy, _⟩, h5⟩, hi => by
    have := h5.length (by omega)
    simp only [List.length_cons]
    omega

/-- No alignment has a greater score. -/
theorem score_le (hg : 0 ≤ g) (ha : WOk a) (hb : WOk b) : ∀ {P : List Tok} {i k : Nat} (n : Int), Valid a b P i k → i ≤ a.length → k ≤ b.length → scoreF a b g P n i k ≤ n + oT g a b i k 0
  | [], i, k, n, _, hi, hk => by
    unfold scoreF
    have hbd := (optC_bound g hg (a.drop i) (b.drop k) 0 (fun t ht => ha t (List.mem_of_mem_drop ht)) (fun t ht => hb t (List.mem_of_mem_drop ht))).1
    rw [opn_zero] at hbd
    by_cases h : (i : Int) < a.length ∨ (k : Int) < b.length
    · rw [if_pos h]
      show _ ≤ n + (optC g (a.drop i) (b.drop k) 0).1
      omega
    · rw [if_neg h]
      obtain rfl : i = a.length := by omega
      obtain rfl : k = b.length := by omega
      rw [oT_end]; omega
  | p :: r, i, k, n, ⟨x, y, h1, h2, h3, ⟨hx, hy, he⟩, h5⟩, hi, hk => by
    subst h1
    unfold scoreF
    have ih := score_le hg ha hb ((if (i : Int) < x ∨ (k : Int) < y then n - g else n) + min (wt a x) (wt b y)) h5 (by omega) (by omega)
    rw [wt_at a x hx, wt_at b y hy] at ih ⊢
    have e1 : ((x + 1 : Nat) : Int) = (x : Int) + 1 := by omega
    have e2 : ((y + 1 : Nat) : Int) = (y : Int) + 1 := by omega
    rw [e1, e2] at ih
    refine Int.le_trans ih ?_
    by_cases h : (i : Int) < x ∨ (k : Int) < y
    · rw [if_pos h]
      have h6 := oT_match (g := g) (a := a) (b := b) 1 hx hy he
      have h7 := oT_gap (g := g) (a := a) (b := b) h2 h3 (Nat.le_of_lt hx) (Nat.le_of_lt hy) (by omega)
      omega
    · rw [if_neg h]
      obtain rfl : i = x := by omega
      obtain rfl : k = y := by omega
      have h6 := oT_match (g := g) (a := a) (b := b) 0 hx hy he
      omega

/-- What a choice says of the score. -/
theorem choice (i k s : Nat) (hi : i < a.length) (hk : k < b.length) :
    (cT g a b i k s = 1 ∧ a[i].1 = b[k].1 ∧ oT g a b i k s = oT g a b (i + 1) (k + 1) 0 + min a[i].2 b[k].2) ∨
    (cT g a b i k s = 2 ∧ oT g a b i k s = oT g a b (i + 1) k 1 - opn g s) ∨ (cT g a b i k s = 3 ∧ oT g a b i k s = oT g a b i (k + 1) 1 - opn g s) := by
  have h := optC_both g a b i k s hi hk
  have h1 : oT g a b i k s = (optC g (a.drop i) (b.drop k) s).1 := rfl
  have h2 : cT g a b i k s = (optC g (a.drop i) (b.drop k) s).2 := rfl
  rw [h1, h2, h]
  unfold best3
  by_cases hh : (a[i].1 == b[k].1) = true ∧ (if oT g a b (i + 1) k 1 - opn g s < oT g a b i (k + 1) 1 - opn g s then oT g a b i (k + 1) 1 - opn g s else oT g a b (i + 1) k 1 - opn g s) ≤ oT g a b (i + 1) (k + 1) 0 + min a[i].2 b[k].2
  · rw [if_pos hh]
    exact .inl ⟨rfl, by simpa using hh.1, rfl⟩
  · rw [if_neg hh]
    by_cases h3 : oT g a b (i + 1) k 1 - opn g s < oT g a b i (k + 1) 1 - opn g s
    · rw [if_pos h3]
      exact .inr (.inr ⟨rfl, rfl⟩)
    · rw [if_neg h3]
      exact .inr (.inl ⟨rfl, rfl⟩)

theorem pathP_valid : ∀ (d i k s : Nat), (a.length - i) + (b.length - k) ≤ d → Valid a b (pathP g (a.drop i) (b.drop k) s i k) i k := by
  intro d
  induction d with
  | zero =>
    intro i k s h
    rw [pathP_nil g a b i k s (by omega)]
    trivial
  | succ d ih =>
    intro i k s h
    by_cases hh : i < a.length ∧ k < b.length
    · obtain ⟨hi, hk⟩ := hh
      rw [pathP_step g a b i k s hi hk]
      rcases choice (g := g) i k s hi hk with ⟨h1, he, _⟩ | ⟨h1, _⟩ | ⟨h1, _⟩
      · rw [if_pos h1]
        exact ⟨i, k, rfl, Nat.le_refl _, Nat.le_refl _, ⟨hi, hk, he⟩, ih _ _ _ (by omega)⟩
      · rw [if_neg (by omega), if_pos h1]
        exact (ih _ _ _ (by omega)).mono (by omega) (by omega)
      · rw [if_neg (by omega), if_neg (by omega)]
        exact (ih _ _ _ (by omega)).mono (by omega) (by omega)
    · rw [pathP_nil g a b i k s (by omega)]
      trivial

theorem oT_nilA : ∀ (d k : Nat), b.length - k ≤ d → k ≤ b.length → oT g a b a.length k 1 = 0 := by
  intro d
  induction d with
  | zero =>
    intro k h hk
    obtain rfl : k = b.length := by omega
    exact oT_end 1
  | succ d ih =>
    intro k h hk
    rcases Nat.lt_or_ge k b.length with hlt | hge
    · show (optC g (a.drop a.length) (b.drop k) 1).1 = 0
      rw [optC_nil g a b k 1 hlt, ih (k + 1) (by omega) (by omega)]
      rfl
    · obtain rfl : k = b.length := by omega
      exact oT_end 1
theorem oT_nilB : ∀ (d i : Nat), a.length - i ≤ d → i ≤ a.length → oT g a b i b.length 1 = 0 := by
  intro d
  induction d with
  | zero =>
    intro i h hi
    obtain rfl : i = a.length := by omega
    exact oT_end 1
  | succ d ih =>
    intro i h hi
    rcases Nat.lt_or_ge i a.length with hlt | hge
    · show (optC g (a.drop i) (b.drop b.length) 1).1 = 0
      rw [optC_left g a b i 1 hlt, ih (i + 1) (by omega) (by omega)]
      rfl
    · obtain rfl : i = a.length := by omega
      exact oT_end 1
/-- The score of the rest of the canonical alignment: 'x, y': behind the last match. -/
theorem path_score : ∀ (d i k s x y : Nat) (n : Int), (a.length - i) + (b.length - k) ≤ d → i ≤ a.length → k ≤ b.length → s < 2 → x ≤ i → y ≤ k → (s = 0 → x = i ∧ y = k) → (s = 1 → x < i ∨ y < k) →
    scoreF a b g (pathP g (a.drop i) (b.drop k) s i k) n x y = n + oT g a b i k s - (if s = 1 then g else 0) := by
  intro d
  induction d with
  | zero =>
    intro i k s x y n h hi hk hs hx hy h0 h1
    obtain rfl : i = a.length := by omega
    obtain rfl : k = b.length := by omega
    rw [pathP_nil g a b _ _ s (by omega), oT_end]
    unfold scoreF
    by_cases e : s = 1
    · rw [if_pos e, if_pos (by have := h1 e; omega)]; omega
    · rw [if_neg e, if_neg (by have := h0 (by omega); omega)]; omega
  | succ d ih =>
    intro i k s x y n h hi hk hs hx hy h0 h1
    by_cases hh : i < a.length ∧ k < b.length
    · obtain ⟨hia, hkb⟩ := hh
      rw [pathP_step g a b i k s hia hkb]
      rcases choice (g := g) i k s hia hkb with ⟨hc, he, hv⟩ | ⟨hc, hv⟩ | ⟨hc, hv⟩
      · rw [if_pos hc]
        unfold scoreF
        have := ih (i + 1) (k + 1) 0 (i + 1) (k + 1) ((if (x : Int) < i ∨ (y : Int) < k then n - g else n) + min (wt a i) (wt b k)) (by omega) (by omega) (by omega) (by omega) (by omega) (by omega) (by omega) (by omega)
        rw [wt_at a i hia, wt_at b k hkb] at this ⊢
        have e1 : ((i + 1 : Nat) : Int) = (i : Int) + 1 := by omega
        have e2 : ((k + 1 : Nat) : Int) = (k : Int) + 1 := by omega
        rw [e1, e2] at this
        rw [this, hv, if_neg (show ¬ (0 : Nat) = 1 by decide)]
        by_cases e : s = 1
        · rw [if_pos e, if_pos (by have := h1 e; omega)]; omega
        · rw [if_neg e, if_neg (by have := h0 (by omega); omega)]; omega
      · rw [if_neg (by omega), if_pos hc]
        have := ih (i + 1) k 1 x y n (by omega) (by omega) (by omega) (by omega) (by omega) (by omega) (by omega) (by omega)
        rw [this, hv, if_pos rfl]
        by_cases e : s = 1
        · subst e; rw [if_pos rfl, opn_one]; omega
        · obtain rfl : s = 0 := by omega
          rw [if_neg (show ¬ (0 : Nat) = 1 by decide), opn_zero]; omega
      · rw [if_neg (by omega), if_neg (by omega)]
        have := ih i (k + 1) 1 x y n (by omega) (by omega) (by omega) (by omega) (by omega) (by omega) (by omega) (by omega)
        rw [this, hv, if_pos rfl]
        by_cases e : s = 1
        · subst e; rw [if_pos rfl, opn_one]; omega
        · obtain rfl : s = 0 := by omega
          rw [if_neg (show ¬ (0 : Nat) = 1 by decide), opn_zero]; omega
    · rw [pathP_nil g a b i k s (by omega)]
      unfold scoreF
      have hv : oT g a b i k s = if i < a.length ∨ k < b.length then 0 - opn g s else 0 := by
        by_cases hlt : i < a.length ∨ k < b.length
        · rw [if_pos hlt]
          rcases Nat.lt_or_ge i a.length with hia | hia
          · obtain rfl : k = b.length := by omega
            show (optC g (a.drop i) (b.drop b.length) s).1 = _
            rw [optC_left g a b i s hia, oT_nilB _ _ (Nat.le_refl _) (by omega)]
          · obtain rfl : i = a.length := by omega
            show (optC g (a.drop a.length) (b.drop k) s).1 = _
            rw [optC_nil g a b k s (by omega), oT_nilA _ _ (Nat.le_refl _) (by omega)]
        · rw [if_neg hlt]
          obtain rfl : i = a.length := by omega
          obtain rfl : k = b.length := by omega
          exact oT_end s
      rw [hv]
      by_cases e : s = 1
      · subst e
        rw [if_pos rfl, opn_one]
        have := h1 rfl
        by_cases hlt : i < a.length ∨ k < b.length
        · rw [if_pos hlt, if_pos (by omega)]; omega
        · rw [if_neg hlt, if_pos (by omega)]; omega
      · obtain rfl : s = 0 := by omega
        have := h0 rfl
        rw [if_neg (show ¬ (0 : Nat) = 1 by decide), opn_zero]
        by_cases hlt : i < a.length ∨ k < b.length
        · rw [if_pos hlt, if_pos (by omega)]; omega
        · rw [if_neg hlt, if_neg (by omega)]; omega

/-- The canonical alignment is an alignment, and its score is the greatest. -/
theorem align_valid : Valid a b (alignL a b g) 0 0 := by
  have := pathP_valid (g := g) (a := a) (b := b) _ 0 0 0 (Nat.le_refl _)
  simpa [alignL] using this
theorem align_score : scoreL a b g (alignL a b g) = oT g a b 0 0 0 := by
  have := path_score (g := g) (a := a) (b := b) _ 0 0 0 0 0 0 (Nat.le_refl _) (by omega) (by omega) (by omega) (by omega) (by omega) (by omega) (by omega)
  simpa [alignL, scoreL] using this
theorem valid_le (hg : 0 ≤ g) (ha : WOk a) (hb : WOk b) {P : List Tok} (h : Valid a b P 0 0) : scoreL a b g P ≤ oT g a b 0 0 0 := by
  have := score_le hg ha hb 0 h (by omega) (by omega)
  simpa [scoreL] using this
end
end Go.Proofs.Ytbpegoekjlehcaa
