/- The model's table of the greatest scores, step for step; no program in sight. -/
import Derived.Test.YtbpegoekjlehcaaOpt
namespace Go.Proofs.Ytbpegoekjlehcaa

def nev : Int := -1099511627776
def mT (g : Int) (a b : List Tok) (i j : Nat) : Int :=
  if h : i < a.length ∧ j < b.length then (if a[i].1 = b[j].1 then min a[i].2 b[j].2 + oT g a b (i + 1) (j + 1) 0 else nev) else nev
def lT (g : Int) (a b : List Tok) (i j s : Nat) : Int := if i < a.length then oT g a b (i + 1) j 1 - opn g s else nev
def rT (g : Int) (a b : List Tok) (i j s : Nat) : Int := if j < b.length then oT g a b i (j + 1) 1 - opn g s else nev

section
variable {g : Int} {a b : List Tok}
theorem mT_bound (hg : 0 ≤ g) (hg1 : g ≤ 1000) (ha : WOk a) (hb : WOk b) (i j : Nat) : nev ≤ mT g a b i j ∧ mT g a b i j ≤ 1000 * a.length + 1000 := by
  unfold mT
  split
  · rename_i h
    split
    · have h1 := oT_bound g hg hg1 a b ha hb (i + 1) (j + 1) 0
      have h2 := ha a[i] (List.getElem_mem _)
      have h3 := hb b[j] (List.getElem_mem _)
      have : 1 ≤ min a[i].2 b[j].2 ∧ min a[i].2 b[j].2 ≤ 1000 := by rw [Int.min_def]; split <;> omega
      unfold nev; omega
    · unfold nev; omega
  · unfold nev; omega
theorem lT_bound (hg : 0 ≤ g) (hg1 : g ≤ 1000) (ha : WOk a) (hb : WOk b) (i j s : Nat) : nev ≤ lT g a b i j s ∧ lT g a b i j s ≤ 1000 * a.length := by
  unfold lT
  have h1 := oT_bound g hg hg1 a b ha hb (i + 1) j 1
  have : 0 ≤ opn g s ∧ opn g s ≤ 1000 := by unfold opn; split <;> omega
  split <;> unfold nev <;> omega
theorem rT_bound (hg : 0 ≤ g) (hg1 : g ≤ 1000) (ha : WOk a) (hb : WOk b) (i j s : Nat) : nev ≤ rT g a b i j s ∧ rT g a b i j s ≤ 1000 * a.length := by
  unfold rT
  have h1 := oT_bound g hg hg1 a b ha hb i (j + 1) 1
  have : 0 ≤ opn g s ∧ opn g s ≤ 1000 := by unfold opn; split <;> omega
  split <;> unfold nev <;> omega

/-- Each score of the table is the greatest of the three. -/
theorem tab_step (hg : 0 ≤ g) (hg1 : g ≤ 1000) (ha : WOk a) (hb : WOk b) {i j : Nat} (s : Nat) (hi : i ≤ a.length) (hj : j ≤ b.length) (hne : i + j < a.length + b.length) :
    oT g a b i j s = max (mT g a b i j) (max (lT g a b i j s) (rT g a b i j s)) := by
  have hb0 := oT_bound g hg hg1 a b ha hb i j s
  by_cases h1 : i < a.length
  · by_cases h2 : j < b.length
    · have hs : oT g a b i j s = _ := congrArg Prod.fst (optC_both g a b i j s h1 h2)
      rw [best3_fst] at hs
      have e1 : lT g a b i j s = oT g a b (i + 1) j 1 - opn g s := by unfold lT; rw [if_pos h1]
      have e2 : rT g a b i j s = oT g a b i (j + 1) 1 - opn g s := by unfold rT; rw [if_pos h2]
      have hb1 := oT_bound g hg hg1 a b ha hb (i + 1) j 1
      have : 0 ≤ opn g s ∧ opn g s ≤ 1000 := by unfold opn; split <;> omega
      by_cases h3 : a[i].1 = b[j].1
      · have e3 : mT g a b i j = min a[i].2 b[j].2 + oT g a b (i + 1) (j + 1) 0 := by unfold mT; rw [dif_pos ⟨h1, h2⟩, if_pos h3]
        have e4 : (a[i].1 == b[j].1) = true := by simpa using h3
        rw [e4] at hs
        rw [hs, e1, e2, e3]
        simp only [true_and]
        generalize oT g a b (i + 1) j 1 - opn g s = n
        generalize oT g a b i (j + 1) 1 - opn g s = m
        generalize oT g a b (i + 1) (j + 1) 0 = q
        generalize min a[i].2 b[j].2 = r
        repeat' split
        all_goals omega
      · have e3 : mT g a b i j = nev := by unfold mT; rw [dif_pos ⟨h1, h2⟩, if_neg h3]
        have e4 : (a[i].1 == b[j].1) = false := by simpa using h3
        rw [e4] at hs
        rw [if_neg (by simp)] at hs
        rw [hs, e1, e2, e3]
        unfold nev
        split <;> omega
    · have h2' : j = b.length := by omega
      subst h2'
      have hs : oT g a b i b.length s = _ := congrArg Prod.fst (optC_left g a b i s h1)
      have e1 : lT g a b i b.length s = oT g a b (i + 1) b.length 1 - opn g s := by unfold lT; rw [if_pos h1]
      have e2 : rT g a b i b.length s = nev := by unfold rT; rw [if_neg (by omega)]
      have e3 : mT g a b i b.length = nev := by unfold mT; rw [dif_neg (by omega)]
      rw [e1, e2, e3]
      rw [hs] at hb0 ⊢
      unfold nev
      simp only at *
      omega
  · have h1' : i = a.length := by omega
    subst h1'
    have h2 : j < b.length := by omega
    have hs : oT g a b a.length j s = _ := congrArg Prod.fst (optC_nil g a b j s h2)
    have e1 : lT g a b a.length j s = nev := by unfold lT; rw [if_neg (by omega)]
    have e2 : rT g a b a.length j s = oT g a b a.length (j + 1) 1 - opn g s := by unfold rT; rw [if_pos h2]
    have e3 : mT g a b a.length j = nev := by unfold mT; rw [dif_neg (by omega)]
    rw [e1, e2, e3]
    rw [hs] at hb0 ⊢
    unfold nev
    simp only at *
    omega

/-- What the model's choice finds, if both lists go on. -/
theorem tab_match (hg : 0 ≤ g) (hg1 : g ≤ 1000) (ha : WOk a) (hb : WOk b) {i j : Nat} (s : Nat) (h1 : i < a.length) (h2 : j < b.length) :
    (oT g a b i j s = mT g a b i j ↔ cT g a b i j s = 1) ∧ (cT g a b i j s ≠ 1 → (oT g a b i j s = lT g a b i j s ↔ cT g a b i j s = 2)) := by
  have hb0 := oT_bound g hg hg1 a b ha hb i j s
  have hs := optC_both g a b i j s h1 h2
  have hf : oT g a b i j s = _ := congrArg Prod.fst hs
  have hc : cT g a b i j s = _ := congrArg Prod.snd hs
  have e1 : lT g a b i j s = oT g a b (i + 1) j 1 - opn g s := by unfold lT; rw [if_pos h1]
  clear hs
  by_cases h3 : a[i].1 = b[j].1
  · have e3 : mT g a b i j = oT g a b (i + 1) (j + 1) 0 + min a[i].2 b[j].2 := by unfold mT; rw [dif_pos ⟨h1, h2⟩, if_pos h3]; omega
    have e4 : (a[i].1 == b[j].1) = true := by simpa using h3
    rw [e4] at hf hc
    rw [e1, e3]
    generalize oT g a b (i + 1) j 1 - opn g s = n at *
    generalize oT g a b i (j + 1) 1 - opn g s = m at *
    generalize oT g a b (i + 1) (j + 1) 0 + min a[i].2 b[j].2 = q at *
    unfold best3 at hf hc
    by_cases hnm : n < m
    · simp only [hnm, if_true, true_and] at hf hc
      by_cases hq : m ≤ q
      · rw [if_pos hq] at hf hc
        rw [hf, hc]; simp
      · rw [if_neg hq] at hf hc
        rw [hf, hc]
        constructor
        · constructor
          · intro h; simp only at h; omega
          · intro h; simp at h
        · intro _
          constructor
          · intro h; simp only at h; omega
          · intro h; simp at h
    · simp only [hnm, if_false, true_and] at hf hc
      by_cases hq : n ≤ q
      · rw [if_pos hq] at hf hc
        rw [hf, hc]; simp
      · rw [if_neg hq] at hf hc
        rw [hf, hc]
        constructor
        · constructor
          · intro h; simp only at h; omega
          · intro h; simp at h
        · intro _; simp
  · have e3 : mT g a b i j = nev := by unfold mT; rw [dif_pos ⟨h1, h2⟩, if_neg h3]
    have e4 : (a[i].1 == b[j].1) = false := by simpa using h3
    rw [e4] at hf hc
    rw [e1, e3]
    unfold best3 at hf hc
    rw [if_neg (by simp)] at hf hc
    have hnv : nev < -1000 := by unfold nev; omega
    generalize oT g a b (i + 1) j 1 - opn g s = n at *
    generalize oT g a b i (j + 1) 1 - opn g s = m at *
    by_cases hnm : n < m
    · rw [if_pos hnm] at hf hc
      rw [hc]
      constructor
      · constructor
        · intro h; omega
        · intro h; simp at h
      · intro _
        constructor
        · intro h; simp only at hf; omega
        · intro h; simp at h
    · rw [if_neg hnm] at hf hc
      rw [hc]
      constructor
      · constructor
        · intro h; omega
        · intro h; simp at h
      · intro _; simpa using hf
theorem tab_left (hg : 0 ≤ g) (hg1 : g ≤ 1000) (ha : WOk a) (hb : WOk b) {i : Nat} (s : Nat) (h1 : i < a.length) :
    oT g a b i b.length s ≠ mT g a b i b.length ∧ oT g a b i b.length s = lT g a b i b.length s := by
  have hb0 := oT_bound g hg hg1 a b ha hb i b.length s
  have hs : oT g a b i b.length s = _ := congrArg Prod.fst (optC_left g a b i s h1)
  have e1 : lT g a b i b.length s = oT g a b (i + 1) b.length 1 - opn g s := by unfold lT; rw [if_pos h1]
  have e3 : mT g a b i b.length = nev := by unfold mT; rw [dif_neg (by omega)]
  refine ⟨?_, by rw [e1, hs]⟩
  rw [e3]; unfold nev; omega
theorem tab_right (hg : 0 ≤ g) (hg1 : g ≤ 1000) (ha : WOk a) (hb : WOk b) (j s : Nat) :
    oT g a b a.length j s ≠ mT g a b a.length j ∧ oT g a b a.length j s ≠ lT g a b a.length j s := by
  have hb0 := oT_bound g hg hg1 a b ha hb a.length j s
  have e1 : lT g a b a.length j s = nev := by unfold lT; rw [if_neg (by omega)]
  have e3 : mT g a b a.length j = nev := by unfold mT; rw [dif_neg (by omega)]
  rw [e1, e3]; unfold nev; omega
/-- What the model does at a place, and what the canonical alignment is there. -/
theorem tab_choose (hg : 0 ≤ g) (hg1 : g ≤ 1000) (ha : WOk a) (hb : WOk b) {i k : Nat} (s : Nat) (hi : i ≤ a.length) (hk : k ≤ b.length) (hne : i < a.length ∨ k < b.length) :
    (oT g a b i k s = mT g a b i k ∧ i < a.length ∧ k < b.length ∧ pathP g (a.drop i) (b.drop k) s i k = ((i : Int), (k : Int)) :: pathP g (a.drop (i + 1)) (b.drop (k + 1)) 0 (i + 1) (k + 1)) ∨
    (oT g a b i k s ≠ mT g a b i k ∧ oT g a b i k s = lT g a b i k s ∧ i < a.length ∧ pathP g (a.drop i) (b.drop k) s i k = pathP g (a.drop (i + 1)) (b.drop k) 1 (i + 1) k) ∨
    (oT g a b i k s ≠ mT g a b i k ∧ oT g a b i k s ≠ lT g a b i k s ∧ k < b.length ∧ pathP g (a.drop i) (b.drop k) s i k = pathP g (a.drop i) (b.drop (k + 1)) 1 i (k + 1)) := by
  by_cases h1 : i < a.length
  · by_cases h2 : k < b.length
    · obtain ⟨e1, e2⟩ := tab_match hg hg1 ha hb s h1 h2
      have hs := pathP_step g a b i k s h1 h2
      by_cases c1 : cT g a b i k s = 1
      · exact .inl ⟨e1.2 c1, h1, h2, by rw [hs, if_pos c1]⟩
      · by_cases c2 : cT g a b i k s = 2
        · exact .inr (.inl ⟨fun h => c1 (e1.1 h), (e2 c1).2 c2, h1, by rw [hs, if_neg c1, if_pos c2]⟩)
        · exact .inr (.inr ⟨fun h => c1 (e1.1 h), fun h => c2 ((e2 c1).1 h), h2, by rw [hs, if_neg c1, if_neg c2]⟩)
    · obtain rfl : k = b.length := by omega
      obtain ⟨e1, e2⟩ := tab_left hg hg1 ha hb s h1
      exact .inr (.inl ⟨e1, e2, h1, by rw [pathP_nil _ _ _ _ _ _ (.inr (Nat.le_refl _)), pathP_nil _ _ _ _ _ _ (.inr (Nat.le_refl _))]⟩)
  · obtain rfl : i = a.length := by omega
    obtain ⟨e1, e2⟩ := tab_right hg hg1 ha hb k s
    exact .inr (.inr ⟨e1, e2, by omega, by rw [pathP_nil _ _ _ _ _ _ (.inl (Nat.le_refl _)), pathP_nil _ _ _ _ _ _ (.inl (Nat.le_refl _))]⟩)
end
end Go.Proofs.Ytbpegoekjlehcaa
