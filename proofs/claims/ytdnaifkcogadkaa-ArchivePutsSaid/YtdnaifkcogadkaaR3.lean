/- Plainly: directories, stage by stage; a slice of entries whose offsets are laid. -/
import Derived.Test.YtdnaifkcogadkaaR1
namespace Go.Proofs.Ytdnaifkcogadkaa
open Go.RowKit

theorem OwnE.get {w : World} {base n c : Nat} {A : Option Addr} {l : List (Ent × Nat)} (h : OwnE w base (.slice A n c) l) (k : Nat) (x : Ent × Nat) (hk : l[k]? = some x) :
    ∃ g, A = some ⟨g, 0, none⟩ ∧ base ≤ g ∧ g < w.heap.size ∧ w.cell? ⟨g, k * 4, none⟩ = some (.string x.1.name) ∧ w.cell? ⟨g, k * 4 + 1, none⟩ = some (.int .i64 x.2) ∧
      w.cell? ⟨g, k * 4 + 2, none⟩ = some (.int .i64 x.1.size) ∧ w.cell? ⟨g, k * 4 + 3, none⟩ = some (.int .u32 x.1.sum) ∧ (∀ j, w.frozen? ⟨g, j, none⟩ = false) := by
  have h' : w.ownsRow base 43 4 (.slice A n c) l.length (l.flatMap encE) := h
  rcases h'.2 with ⟨hv, hn⟩ | ⟨g, cap, cur, hv, hb, hg, _⟩
  · have : l = [] := List.eq_nil_of_length_eq_zero hn
    subst this
    simp at hk
  · simp only [Value.slice.injEq] at hv
    obtain ⟨rfl, rfl, rfl⟩ := hv
    have hc := fun j u (hj : (encE x)[j]? = some u) => h'.cells (g := g) rfl (k * 4 + j) u (flatMap_get encE_length l k x hk j u hj)
    simp only [addr_add, Nat.zero_add] at hc
    exact ⟨g, rfl, hb, lt_of_block hg, hc 0 _ rfl, hc 1 _ rfl, hc 2 _ rfl, hc 3 _ rfl, fun j => h'.frozenAt j⟩

theorem OwnE.setOff {w : World} {base g n c : Nat} {p q : List (Ent × Nat)} {x : Ent} (h : OwnE w base (.slice (some ⟨g, 0, none⟩) n c) (p ++ (x, 0) :: q)) (a : Nat) :
    OwnE (w.setCell ⟨g, p.length * 4 + 1, none⟩ (.int .i64 a)) base (.slice (some ⟨g, 0, none⟩) n c) (p ++ (x, a) :: q) ∧ w.grownBy (w.setCell ⟨g, p.length * 4 + 1, none⟩ (.int .i64 a)) (some g) := by
  have h' : w.ownsRow base 43 4 (.slice (some ⟨g, 0, none⟩) n c) (p ++ (x, 0) :: q).length ((p ++ (x, 0) :: q).flatMap encE) := h
  have hn : n = (p ++ (x, 0) :: q).length := by
    rcases h'.2 with ⟨hv, _⟩ | ⟨g, cap, cur, hv, _⟩
    · simp at hv
    · simp only [Value.slice.injEq] at hv
      exact hv.2.1
  subst hn
  obtain ⟨h1, h2⟩ := h'.stored (p.length * 4 + 1) (.int .i64 a)
  refine ⟨?_, h2⟩
  have e : ((p ++ (x, 0) :: q).flatMap encE).set (p.length * 4 + 1) (.int .i64 a) = (p ++ (x, a) :: q).flatMap encE := by
    rw [List.flatMap_append, List.flatMap_append, List.set_append_right _ _ (by rw [flatMap_length encE_length]; omega), flatMap_length encE_length, List.flatMap_cons, List.flatMap_cons]
    have : p.length * 4 + 1 - p.length * 4 = 1 := by omega
    rw [this]
    rfl
  rw [e] at h1
  have el : (p ++ (x, a) :: q).length = (p ++ (x, 0) :: q).length := by simp
  unfold OwnE Own
  rw [el]
  exact h1

/-- The entries' list under way: the first with their offsets, the others without. -/
def mixE (a : Nat) (p q : List Ent) : List (Ent × Nat) := withOff a p ++ q.map fun x => (x, 0)
theorem mixE_step (a : Nat) (p : List Ent) (x : Ent) (q : List Ent) : mixE a p (x :: q) = withOff a p ++ (x, 0) :: q.map fun x => (x, 0) := rfl
theorem mixE_next (a : Nat) (p : List Ent) (x : Ent) (q : List Ent) : mixE a (p ++ [x]) q = withOff a p ++ (x, a + sizes p) :: q.map fun x => (x, 0) := by
  simp [mixE, withOff_append, withOff]
theorem mixE_at (a : Nat) (p : List Ent) (x : Ent) (q : List Ent) : (mixE a p (x :: q))[p.length]? = some (x, 0) := by
  rw [mixE_step, List.getElem?_append_right (by rw [withOff_length]; exact Nat.le_refl _), withOff_length]
  simp
theorem mixE_last (a : Nat) (p : List Ent) (y : Ent) (q : List Ent) : (mixE a (p ++ [y]) q)[p.length]? = some (y, a + sizes p) := by
  rw [mixE_next, List.getElem?_append_right (by rw [withOff_length]; exact Nat.le_refl _), withOff_length]
  simp
theorem mixE_length (a : Nat) (p q : List Ent) : (mixE a p q).length = p.length + q.length := by simp [mixE, withOff_length]
theorem mixE_nil (a : Nat) (p : List Ent) : mixE a p [] = withOff a p := by simp [mixE]

theorem entE_cons (y : Option Ent) (x : Ent) (r : List Ent) : entE y (x :: r) = if badE y x ≠ 0 then badE y x else entE (some x) r := rfl
theorem entE_bad {y : Option Ent} {x : Ent} {r : List Ent} {z : Int} (h : badE y x = z) (hz : z ≠ 0) : entE y (x :: r) = z := by rw [entE_cons, h, if_pos hz]
theorem entE_good {y : Option Ent} {x : Ent} {r : List Ent} (h : badE y x = 0) : entE y (x :: r) = entE (some x) r := by rw [entE_cons, h, if_neg (by decide)]
theorem badE_name {y : Option Ent} {x : Ent} (h : nameL (bytesN x.name) = false) : badE y x = 13 := by unfold badE; rw [if_pos h]
theorem badE_first {x : Ent} (h : nameL (bytesN x.name) = true) : badE none x = if 1048576 < x.size then 10 else 0 := by unfold badE; rw [if_neg (by rw [h]; decide)]
theorem badE_next {x y : Ent} (h : nameL (bytesN x.name) = true) : badE (some y) x = if x.name.toList = y.name.toList then 7 else if x.name.toList < y.name.toList then 6 else if 1048576 < x.size then 10 else 0 := by unfold badE; rw [if_neg (by rw [h]; decide)]

theorem dirE_1 {l : List Nat} (h : l.length < 12) : dirE l = 34 := by unfold dirE; rw [if_pos h]
theorem dirE_2 {l : List Nat} (h1 : ¬ l.length < 12) (h : l.take 4 ≠ magicL) : dirE l = 35 := by unfold dirE; rw [if_neg h1, if_pos h]
theorem dirE_3 {l : List Nat} (h1 : ¬ l.length < 12) (h2 : l.take 4 = magicL) (h : get4 l 8 ≠ ones ^^^ get4 l 4) : dirE l = 33 := by unfold dirE; rw [if_neg h1, if_neg (by simpa using h2), if_pos h]
theorem dirE_4 {l : List Nat} (h1 : ¬ l.length < 12) (h2 : l.take 4 = magicL) (h3 : get4 l 8 = ones ^^^ get4 l 4) (h : l.length < endL l + 4) : dirE l = 34 := by
  unfold dirE; rw [if_neg h1, if_neg (by simpa using h2), if_neg (by simpa using h3), if_pos h]
theorem dirE_5 {l : List Nat} (h1 : ¬ l.length < 12) (h2 : l.take 4 = magicL) (h3 : get4 l 8 = ones ^^^ get4 l 4) (h4 : ¬ l.length < endL l + 4) (h : get4 l (endL l) ≠ crcL (l.take (endL l))) : dirE l = 33 := by
  unfold dirE; rw [if_neg h1, if_neg (by simpa using h2), if_neg (by simpa using h3), if_neg h4, if_pos h]
theorem dirE_6 {l : List Nat} (h1 : ¬ l.length < 12) (h2 : l.take 4 = magicL) (h3 : get4 l 8 = ones ^^^ get4 l 4) (h4 : ¬ l.length < endL l + 4) (h5 : get4 l (endL l) = crcL (l.take (endL l))) (h : entL ((l.take (endL l)).drop 12) = none) : dirE l = 15 := by
  unfold dirE; rw [if_neg h1, if_neg (by simpa using h2), if_neg (by simpa using h3), if_neg h4, if_neg (by simpa using h5), h]
theorem dirE_7 {l : List Nat} {es : List Ent} (h1 : ¬ l.length < 12) (h2 : l.take 4 = magicL) (h3 : get4 l 8 = ones ^^^ get4 l 4) (h4 : ¬ l.length < endL l + 4) (h5 : get4 l (endL l) = crcL (l.take (endL l))) (h : entL ((l.take (endL l)).drop 12) = some es) :
    dirE l = (if 64 < es.length then 9 else if entE none es ≠ 0 then entE none es else if l.length < endL l + 4 + sizes es then 34 else if endL l + 4 + sizes es < l.length then 15 else 0) ∧ dirEs l = es := by
  constructor
  · unfold dirE; rw [if_neg h1, if_neg (by simpa using h2), if_neg (by simpa using h3), if_neg h4, if_neg (by simpa using h5), h]
  · unfold dirEs; rw [h]; rfl
theorem entL_size : ∀ (l : List Nat) (es : List Ent), (∀ b ∈ l, b < 256) → entL l = some es → (∀ x ∈ es, x.size < 4294967296 ∧ x.sum < 4294967296 ∧ x.name.size < 256) ∧ es.length * 9 ≤ l.length := by
  intro l
  induction hn : l.length using Nat.strongRecOn generalizing l with
  | ind n ih =>
    intro es hb h
    cases l with
    | nil =>
      rw [entL_nil] at h
      cases h
      simp
    | cons c r =>
      by_cases hs : r.length < c + 8
      · rw [entL_short hs] at h; cases h
      · rw [entL_cons hs, Option.map_eq_some_iff] at h
        obtain ⟨t, ht, rfl⟩ := h
        have hr : ∀ b ∈ r, b < 256 := fun b h => hb b (List.mem_cons_of_mem _ h)
        have hd : ∀ b ∈ r.drop (c + 8), b < 256 := fun b h => hr b (List.mem_of_mem_drop h)
        simp only [List.length_cons] at hn
        obtain ⟨i1, i2⟩ := ih (r.drop (c + 8)).length (by rw [List.length_drop]; omega) (r.drop (c + 8)) rfl t hd ht
        rw [List.length_drop] at i2
        refine ⟨fun x hx => ?_, by simp only [List.length_cons]; omega⟩
        rcases List.mem_cons.1 hx with rfl | hx
        · refine ⟨get4_lt hr _, get4_lt hr _, ?_⟩
          have := hb c (by simp)
          show (ofN (r.take c)).size < 256
          rw [ofN_size, List.length_take]; omega
        · exact i1 x hx
theorem magic_iff (s : ByteArray) : (bytesN s).take 4 = magicL ↔ s.extract 0 4 = ⟨#[79, 66, 80, 49]⟩ := by
  have e : (bytesN s).take 4 = bytesN (s.extract 0 4) := by rw [bytesN_extract]; rfl
  rw [e]
  constructor
  · intro h
    exact bytesN_inj (h.trans rfl)
  · intro h
    rw [h]; rfl
end Go.Proofs.Ytdnaifkcogadkaa
