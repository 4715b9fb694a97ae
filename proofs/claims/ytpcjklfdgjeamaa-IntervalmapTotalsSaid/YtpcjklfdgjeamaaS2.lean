/- What stays beside a map of the call's own; how many elements a set holds. -/
import Derived.Test.YtpcjklfdgjeamaaS1
import Derived.Test.YtpcjklfdgjeamaaT1
namespace Go.Proofs.Ytpcjklfdgjeamaa
open Go.RowKit Go.MapKept

theorem zero4 (w : World) : (zeroValue 4).run Try.prog w = .ok (.bool false) w := by kernel_rfl
section
variable {w w' : World} {b : Nat} {S : List Int}
theorem SeenAt.nocell (h : SeenAt w b S) (o : Nat) : w.cell? ⟨b, o, none⟩ = none := by
  obtain ⟨es, clock, hb, _⟩ := h
  simp [World.cell?, hb]
theorem SeenAt.cell {b' o : Nat} {u : Value} (hs : SeenAt w b S) (hg : w.grownBy w' (some b)) (h : w.cell? ⟨b', o, none⟩ = some u) : w'.cell? ⟨b', o, none⟩ = some u := by
  have hl := World.block_lt_of_cell? _ _ h
  rw [← h]
  refine World.cell?_of_block (hg.block b' hl ?_)
  intro e
  injection e with e
  subst e
  rw [hs.nocell] at h
  cases h
theorem Sl.past {α : Type} {enc : α → List Value} {sz : Nat} {v : Value} {l : List α} (h : Sl enc sz w w.heap.size v l) (hs : SeenAt w b S) (hg : w.grownBy w' (some b)) : Sl enc sz w' w'.heap.size v l := by
  obtain ⟨A, c, rfl, h1, h2, h3⟩ := h
  refine ⟨A, c, rfl, h1, h2, fun hn => ?_⟩
  obtain ⟨b', o, rfl, hb, hc⟩ := h3 hn
  refine ⟨b', o, rfl, Nat.lt_of_lt_of_le hb hg.size, fun i x hx j u hu => ?_⟩
  have hcell := hc i x hx j u hu
  rw [← hcell]
  refine World.cell?_of_block (hg.block b' hb ?_)
  intro e
  injection e with e
  subst e
  rw [hs.nocell] at hcell
  cases hcell
theorem MapAt.past {m : Nat} {R : List Rn} (h : MapAt w m R) (hs : SeenAt w b S) (hg : w.grownBy w' (some b)) : MapAt w' m R := by
  obtain ⟨v, h1, h2⟩ := h
  refine ⟨v, (hg.block _ (lt_of_block h1) (fun e => ?_)).trans h1, Sl.past h2 hs hg⟩
  injection e with e
  subst e
  obtain ⟨es, clock, hb, _⟩ := hs
  rw [hb] at h1
  injection h1 with h1
  cases h1
end

/-- How many elements of T the set S holds. -/
def inS (S T : List Int) : Nat := T.countP fun x => decide (x ∈ S)
theorem inS_nil (T : List Int) : inS [] T = 0 := by simp [inS]
theorem inS_cons {x : Int} {S : List Int} (h : x ∉ S) : ∀ T : List Int, inS (x :: S) T = inS S T + T.count x
  | [] => rfl
  | y :: T => by
    have ih := inS_cons h T
    unfold inS at ih ⊢
    rw [List.countP_cons, List.countP_cons, List.count_cons, ih]
    by_cases hy : y = x
    · subst hy
      simp [h]
      omega
    · by_cases hs : y ∈ S
      · simp [hy, hs]; omega
      · simp [hy, hs]
theorem inS_le (S T : List Int) : inS S T ≤ T.length := List.countP_le_length
theorem inS_all {S T : List Int} (h : ∀ x ∈ T, x ∈ S) : inS S T = T.length := by
  unfold inS
  rw [List.countP_eq_length]
  intro x hx
  simpa using h x hx

/-- The elements from a to b. -/
def part (l : List Int) (a b : Nat) : List Int := (l.drop a).take (b - a)
theorem part_length (l : List Int) (a b : Nat) (hb : b ≤ l.length) : (part l a b).length = b - a := by
  unfold part
  rw [List.length_take, List.length_drop]; omega
theorem part_mem {l : List Int} {a b : Nat} (_hb : b ≤ l.length) {x : Int} (hx : x ∈ part l a b) : ∃ j, ∃ h : j < l.length, a ≤ j ∧ j < b ∧ l[j] = x := by
  unfold part at hx
  obtain ⟨i, hi, he⟩ := List.getElem_of_mem hx
  rw [List.length_take, List.length_drop] at hi
  rw [List.getElem_take, List.getElem_drop] at he
  exact ⟨a + i, by omega, by omega, by omega, he⟩
theorem cntV_part (l : List Int) (a b : Nat) (v : Int) : cntV l a b v = (part l a b).count v := rfl
theorem sum_step {l S : List Int} {a b : Nat} {x : Int} (hx : x ∉ S) : inS (x :: S) (part l a b) = inS S (part l a b) + cntV l a b x := by
  rw [inS_cons hx, cntV_part]

/-- The elements from a up to k lie in S. -/
def Upto (l S : List Int) (a k : Nat) : Prop := ∀ j, a ≤ j → j < k → ∀ h : j < l.length, l[j] ∈ S
theorem Upto.nil (l S : List Int) (a : Nat) : Upto l S a a := fun j h1 h2 => by omega
theorem Upto.keep {l S : List Int} {a k : Nat} (h : Upto l S a k) {x : Int} (hk : k < l.length) (e : l[k] = x) (hx : x ∈ S) : Upto l S a (k + 1) := fun j h1 h2 hj => by
  by_cases hjk : j = k
  · subst hjk; rw [e]; exact hx
  · exact h j h1 (by omega) hj
theorem Upto.put {l S : List Int} {a k : Nat} (h : Upto l S a k) {x : Int} (hk : k < l.length) (e : l[k] = x) : Upto l (x :: S) a (k + 1) := fun j h1 h2 hj => by
  by_cases hjk : j = k
  · subst hjk; rw [e]; exact List.mem_cons_self ..
  · exact List.mem_cons_of_mem _ (h j h1 (by omega) hj)
theorem Upto.all {l S : List Int} {a b : Nat} (h : Upto l S a b) (hb : b ≤ l.length) : inS S (part l a b) = b - a := by
  rw [inS_all (fun x hx => ?_), part_length l a b hb]
  obtain ⟨j, hj, h1, h2, e⟩ := part_mem hb hx
  rw [← e]; exact h j h1 h2 hj
end Go.Proofs.Ytpcjklfdgjeamaa
