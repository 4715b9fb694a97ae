/- Walk: known: the chapter's examples hold. -/
import Derived.Test.YtbpegoekjlehcaaW10
import Derived.Test.YtbpegoekjlehcaaW12
import Derived.Test.YtbpegoekjlehcaaKn
namespace Go.Proofs.Ytbpegoekjlehcaa
open Go.RowKit

theorem kv1 : bestL wabc waxc 1 = (1, 0) := by unfold bestL; rw [if_neg (by rw [kb.1]; decide), if_neg (by rw [kg.1]; decide), k1]
theorem kv2 : bestL wab wacab 1 = (oT 1 wab wacab 0 0 0, 0) := by unfold bestL; rw [if_neg (by rw [kb.2.1]; decide), if_neg (by rw [kg.1]; decide)]
theorem kv2' : alignR wab wacab 1 = [(0, 0), (1, 3)] := by unfold alignR; rw [kv2, if_pos rfl, k2]
theorem kv3 : bestL waba waca 5 = (-3, 0) := by unfold bestL; rw [if_neg (by rw [kb.2.2]; decide), if_neg (by rw [kg.2]; decide), k3]
theorem kv4 : similL wabc waxc = (666, 0) := by unfold similL; rw [if_neg (by rw [kb.1]; decide), ks.1, ks.2, if_neg (by decide), k4]; rfl

/-- A word, where the letters' tokens are known. -/
theorem word_lit (s : ByteArray) (l : List Tok) (hl : (s.data.toList.map fun c => ((c.toNat : Int), (1 : Int))) = l) (w : World) (hs : s.size ≤ 4096) :
    Calls Try.prog 25 #[.string s] w fun e w' => ∃ v', e = .returned v' ∧ Toks w' w'.heap.size v' l ∧ Below w.heap.size w w' := by
  subst hl
  exact (word_any s w hs).mono fun e w' ⟨v, h1, h2, h3⟩ => ⟨v, h1, h2.sl encT_length, h3⟩

set_option maxRecDepth 100000 in
set_option maxHeartbeats 2000000 in
theorem known_any (w : World) : Calls Try.prog 15 #[] w fun e w' => e = .returned (.bool true) ∧ Below w.heap.size w w' := by
  have HP := Lib.hid kv2'
  go_enter Try.func15, Try.ntmps15
  go_wp2_with fail
  refine (word_lit _ wabc (by rfl) _ (by decide)).mono ?_
  rintro e w1 ⟨v1, rfl, h1, b1⟩
  go_wp2_with fail
  refine (word_lit _ waxc (by rfl) _ (by decide)).mono ?_
  rintro e w2 ⟨v2, rfl, h2, b2⟩
  go_wp2_with fail
  refine (best_any _ _ wabc waxc 1 w2 (h1.over b2) h2).mono ?_
  rw [kv1]
  rintro e w3 ⟨rfl, b3⟩
  have c3 := b1.trans ((b2.trans (b3.mono b2.size)).mono b1.size)
  clear h1 h2 b1 b2 b3
  go_wp2_with fail
  refine (word_lit _ wab (by rfl) _ (by decide)).mono ?_
  rintro e w4 ⟨v4, rfl, h1, b1⟩
  go_wp2_with fail
  refine (word_lit _ wacab (by rfl) _ (by decide)).mono ?_
  rintro e w5 ⟨v5, rfl, h2, b2⟩
  go_wp2_with fail
  refine (align_any _ _ wab wacab 1 w5 (h1.over b2) h2).mono ?_
  rw [kv2, HP.out]
  rintro e w6 ⟨v6, rfl, ho, b3⟩
  have hs6 := ho.sl encT_length
  have c6 := c3.trans ((b1.trans ((b2.trans (b3.mono b2.size)).mono b1.size)).mono c3.size)
  clear h1 h2 b1 b2 b3 ho c3
  go_wp2_with fail
  refine (word_lit _ waba (by rfl) _ (by decide)).mono ?_
  rintro e w7 ⟨v7, rfl, h1, b1⟩
  go_wp2_with fail
  refine (word_lit _ waca (by rfl) _ (by decide)).mono ?_
  rintro e w8 ⟨v8, rfl, h2, b2⟩
  go_wp2_with fail
  refine (best_any _ _ waba waca 5 w8 (h1.over b2) h2).mono ?_
  rw [kv3]
  rintro e w9 ⟨rfl, b3⟩
  have d9 := b1.trans ((b2.trans (b3.mono b2.size)).mono b1.size)
  clear h1 h2 b1 b2 b3
  go_wp2_with fail
  refine (word_lit _ wabc (by rfl) _ (by decide)).mono ?_
  rintro e w10 ⟨v10, rfl, h1, b1⟩
  go_wp2_with fail
  refine (word_lit _ waxc (by rfl) _ (by decide)).mono ?_
  rintro e w11 ⟨v11, rfl, h2, b2⟩
  go_wp2_with fail
  refine (simil_any _ _ wabc waxc w11 (h1.over b2) h2).mono ?_
  rw [kv4]
  rintro e w12 ⟨rfl, b3⟩
  have d12 := d9.trans ((b1.trans ((b2.trans (b3.mono b2.size)).mono b1.size)).mono d9.size)
  have hs12 := hs6.over d12
  have c12 := c6.trans (d12.mono c6.size)
  clear h1 h2 b1 b2 b3 hs6 d9 d12 c6
  go_wp2_with fail
  have hsl : Toks (w12.alloc (.cells #[.int .i64 0, .int .i64 0, .int .i64 1, .int .i64 3] 62)) (w12.alloc (.cells #[.int .i64 0, .int .i64 0, .int .i64 1, .int .i64 3] 62)).heap.size (.slice (some ⟨w12.heap.size, 0, none⟩) 2 2) [(0, 0), (1, 3)] := by
    refine ⟨_, _, rfl, by simp, by simp [maxLen], fun _ => ⟨_, _, rfl, by simp, fun i x hx j u hu => ?_⟩⟩
    have hi : i < 2 := (List.getElem?_eq_some_iff.1 hx).1
    have hj : j < 2 := by have := (List.getElem?_eq_some_iff.1 hu).1; rwa [encT_length] at this
    match i, hi, j, hj with
    | 0, _, 0, _ => cases hx; cases hu; simp
    | 0, _, 1, _ => cases hx; cases hu; simp
    | 1, _, 0, _ => cases hx; cases hu; simp
    | 1, _, 1, _ => cases hx; cases hu; simp
  have hbA : Below w12.heap.size w12 (w12.alloc (.cells #[.int .i64 0, .int .i64 0, .int .i64 1, .int .i64 3] 62)) := (Below.refl _ _).alloc (Nat.le_refl _) _
  refine (samePairs_any _ _ [(0, 0), (1, 3)] [(0, 0), (1, 3)] _ (hs12.over hbA) hsl).mono ?_
  rw [decide_eq_true rfl]
  rintro e w13 ⟨rfl, b13⟩
  have c13 := c12.trans ((hbA.trans (b13.mono (by simp))).mono c12.size)
  clear hsl hs12 hbA b13 c12
  go_wp2_with fail
  go_ret
  exact ⟨rfl, c13⟩

end Go.Proofs.Ytbpegoekjlehcaa
