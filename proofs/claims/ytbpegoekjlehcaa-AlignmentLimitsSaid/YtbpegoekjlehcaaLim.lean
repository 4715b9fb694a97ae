/- The longest list: what the law makes; no program in sight. -/
import Derived.Test.YtbpegoekjlehcaaPre
namespace Go.Proofs.Ytbpegoekjlehcaa

def lim : List Tok := (List.range 2048).map fun (i : Nat) => ((i : Int), (1 : Int))
def wx : List Tok := [(120, 1)]
theorem lim_length : lim.length = 2048 := by unfold lim; simp
theorem lim_one : One lim := fun t ht => by
  obtain ⟨u, _, rfl⟩ := List.mem_map.1 ht
  rfl
theorem wx_one : One wx := fun t ht => by
  simp only [wx, List.mem_singleton] at ht
  rw [ht]
theorem lim_get (i : Nat) (h : i < 2048) : lim[i]? = some ((i : Int), (1 : Int)) := by unfold lim; simp [h]
theorem best_word {l : List Tok} (h1 : One l) (hl : 120 < l.length) (hg : l[120] = ((120 : Int), (1 : Int))) : oT 0 l wx 0 0 0 = 1 := by
  refine Int.le_antisymm ?_ ?_
  · have := optC_bound 0 (by omega) wx l 0 wx_one.ok h1.ok
    have h2 := oT_swap (g := 0) (Int.le_refl _) h1.ok wx_one.ok
    rw [h2]
    exact this.2
  · have hv : Valid l wx [(120, 0)] 0 0 := ⟨120, 0, rfl, by omega, by omega, ⟨hl, by simp [wx], by rw [hg]; rfl⟩, trivial⟩
    have hs := valid_le (g := 0) (Int.le_refl _) h1.ok wx_one.ok hv
    have he : scoreL l wx 0 [(120, 0)] = 1 := by
      have w1 : wt l ((120 : Nat) : Int) = 1 := by rw [wt_at l 120 hl, hg]
      have w2 : wt wx ((0 : Nat) : Int) = 1 := by rw [wt_at wx 0 (by simp [wx])]; rfl
      unfold scoreL scoreF scoreF
      simp only [Int.sub_zero, ite_self]
      rw [show (120 : Int) = ((120 : Nat) : Int) from rfl, w1, show (0 : Int) = ((0 : Nat) : Int) from rfl, w2]
      rfl
    omega
theorem lim_best : oT 0 lim wx 0 0 0 = 1 := by
  have hl : 120 < lim.length := by rw [lim_length]; omega
  refine best_word lim_one hl ?_
  have := lim_get 120 (by omega)
  rw [List.getElem?_eq_getElem hl] at this
  injection this
theorem lim_both : bothL lim wx = 0 := bothL_of lim_one.ok wx_one.ok (by rw [lim_length]; omega) (by simp [wx])
theorem lim_check : checkL lim = 0 := by
  have := lim_both
  unfold bothL at this
  by_cases h : checkL lim = 0
  · exact h
  · rw [if_neg h] at this; exact absurd this h
theorem more_check (y : Tok) : checkL (lim ++ [y]) = 9 := by unfold checkL; rw [if_pos (by rw [List.length_append, lim_length]; simp)]
theorem more_both (y : Tok) : bothL (lim ++ [y]) wx = 9 := by unfold bothL; rw [more_check, if_neg (by omega)]
/-- The cells of the list while its first k tokens are set. -/
def limF (k q : Nat) : Int := if q < 2 * k then (if q % 2 = 0 then ((q / 2 : Nat) : Int) else 1) else 0
theorem limF_step (k q : Nat) : limF (k + 1) q = if q = k * 2 + 1 then 1 else if q = k * 2 then (k : Int) else limF k q := by
  unfold limF
  by_cases h1 : q = k * 2 + 1
  · rw [if_pos h1, if_pos (by omega), if_neg (by omega)]
  · rw [if_neg h1]
    by_cases h2 : q = k * 2
    · rw [if_pos h2, if_pos (by omega), if_pos (by omega)]
      have : q / 2 = k := by omega
      rw [this]
    · rw [if_neg h2]
      by_cases h3 : q < 2 * k
      · rw [if_pos h3, if_pos (by omega)]
      · rw [if_neg h3, if_neg (by omega)]
end Go.Proofs.Ytbpegoekjlehcaa
