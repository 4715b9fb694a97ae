/- What the laws share: the cut of a list, and plain facts on pairs. -/
import Derived.Test.YtbpegoekjlehcaaW4
import Derived.Test.YtbpegoekjlehcaaW5
import Derived.Test.YtbpegoekjlehcaaW6
import Derived.Test.YtbpegoekjlehcaaW13
import Derived.Test.YtbpegoekjlehcaaLaw
import Derived.Test.YtbpegoekjlehcaaOpt2
namespace Go.Proofs.Ytbpegoekjlehcaa
open Go.RowKit

theorem quiet_left {P : Program} {f : FuncId} {args : Array Value} {w : World} {n : Nat} {v : Value}
    (h : Calls P f args (w.drewN n) fun e w' => e = .returned v ∧ w.drewN n = w') : Calls P f args (w.drewN n) fun e w'' => e = .returned v ∧ ∃ m, w'' = w.drewN m :=
  h.mono fun _ _ ⟨he, hw⟩ => ⟨he, n, hw.symm⟩

/-- A list that is cut to 40 tokens. -/
theorem cut_tok {w : World} {B : Nat} {v : Value} {l : List Tok} (h : Toks w B v l) : ∃ A n m c, v = .slice A n c ∧ Toks w B (.slice A m c) (l.take 40) ∧ m ≤ 40 ∧ m = (l.take 40).length ∧
    ∀ W : World, Calls Try.prog 12 #[.slice A n c] W fun e w' => e = .returned (.slice A m c) ∧ W = w' := by
  obtain ⟨A, c, rfl, h1, h2, h3⟩ := id h
  refine ⟨A, l.length, min l.length 40, c, rfl, h.take 40 A l.length c rfl, by omega, by rw [List.length_take, Nat.min_comm], fun W => ?_⟩
  exact cut_any A l.length c h1 (by unfold maxLen at h2; omega) W

theorem pairs_valid {a b : List Tok} : ∀ {P : List Tok} {i k : Nat}, Valid a b P i k → pairsF a b P ((i : Int) - 1) ((k : Int) - 1) = 0
  | [], _, _, _ => rfl
  | p :: r, i, k, ⟨x, y, h1, h2, h3, ⟨hx, hy, he⟩, h5⟩ => by
    subst h1
    unfold pairsF
    have ih := pairs_valid h5
    rw [show ((x + 1 : Nat) : Int) - 1 = x from by omega, show ((y + 1 : Nat) : Int) - 1 = y from by omega] at ih
    rw [if_neg (by simp only; omega), if_neg (by simp only; omega), if_neg (by rw [ky_at a x hx, ky_at b y hy]; simpa using he)]
    exact ih
theorem pairsL_valid {a b P : List Tok} (h : Valid a b P 0 0) : pairsL a b P = 0 := by
  have := pairs_valid h
  simpa [pairsL] using this

theorem chosen_valid {a b : List Tok} : ∀ (cs : List Nat) (i k : Nat), Valid a b (chosenF a b cs i k) i k
  | [], _, _ => trivial
  | c :: r, i, k => by
    unfold chosenF
    by_cases h : i < a.length ∧ k < b.length
    · rw [if_pos h]
      by_cases h0 : c % 4 = 0
      · rw [if_pos h0]; exact (chosen_valid r (i + 1) k).mono (by omega) (by omega)
      · rw [if_neg h0]
        by_cases h1 : c % 4 = 1
        · rw [if_pos h1]; exact (chosen_valid r i (k + 1)).mono (by omega) (by omega)
        · rw [if_neg h1]
          by_cases he : ky a i = ky b k
          · rw [if_pos he]
            rw [ky_at a i h.1, ky_at b k h.2] at he
            exact ⟨i, k, rfl, Nat.le_refl _, Nat.le_refl _, ⟨h.1, h.2, he⟩, chosen_valid r (i + 1) (k + 1)⟩
          · rw [if_neg he]; exact (chosen_valid r i (k + 1)).mono (by omega) (by omega)
    · rw [if_neg h]; trivial

theorem WOk.take {l : List Tok} (h : WOk l) (n : Nat) : WOk (l.take n) := fun t ht => h t (List.mem_of_mem_take ht)
end Go.Proofs.Ytbpegoekjlehcaa
