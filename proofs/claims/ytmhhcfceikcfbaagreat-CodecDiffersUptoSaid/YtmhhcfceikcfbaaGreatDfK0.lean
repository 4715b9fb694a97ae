/- Walks: the first fault, small questions. -/
import Derived.Test.YtmhhcfceikcfbaaGreatDfR6
namespace Go.Proofs.YtmhhcfceikcfbaaGreat
open Go.RowKit
/-- The first fault. -/
def firstE : List Int → Int
 | [] => 0
 | x :: r => if x = 0 then firstE r else x
set_option maxRecDepth 100000 in
set_option maxHeartbeats 1000000 in
theorem when51 (b : Bool) (x : Int) (w : World) :
  Calls Tryz.prog 51 #[.bool b, .int .i64 x] w fun e w' => e = .returned (.int .i64 (if b then x else 0)) ∧ w = w' := by
 cases b
 ·go_enter Tryz.func51, Tryz.ntmps51
  go_wp2_with fail
  go_ret
  exact ⟨rfl, rfl⟩
 ·go_enter Tryz.func51, Tryz.ntmps51
  go_wp2_with fail
  go_ret
  exact ⟨rfl, rfl⟩
set_option maxRecDepth 100000 in
set_option maxHeartbeats 1000000 in
theorem first46 (l : List Int) (g c : Nat) (w : World) (hc : ∀ (j : Nat) (x : Int), l[j]? = some x → w.cell? ⟨g, j, none⟩ = some (.int .i64 x)) (hl : l.length ≤ 1000) :
  Calls Tryz.prog 46 #[.slice (some ⟨g, 0, none⟩) l.length c] w fun e w' => e = .returned (.int .i64 (firstE l)) ∧ w = w' := by
 obtain ⟨M, hM⟩ : ∃ M, M = firstE l := ⟨_, rfl⟩
 have HM : Hid (firstE (l.drop 0) = M) := Lib.hid (by rw [hM]; rfl)
 have HC := Lib.hid hc
 obtain ⟨n, hn⟩ : ∃ n, n = l.length := ⟨_, rfl⟩
 have hn2 : n ≤ 1000 := by omega
 rw [← hM, ← hn]
 have HN := Lib.hid hn
 clear hc hM hn
 go_enter Tryz.func46, Tryz.ntmps46
 go_wp2_with fail
 go_loop [7] (fun iv => ∃ i : Nat, iv = .int .i64 (i : Int) ∧ i ≤ n ∧ Hid (firstE (l.drop i) = M)) (fun iv => n - (intOf iv).toNat)
 case atStart => exact ⟨0, rfl, Nat.zero_le _, HM⟩
 case round =>
  obtain ⟨i, rfl, hin, HI⟩ := hrel
  clear HM
  by_cases hlt : i < n
  ·have hlt' : (i : Int) < (n : Int) := by omega
   have hx : l[i]? = some (l[i]'(by rw [← HN.out]; exact hlt)) := List.getElem?_eq_getElem (by rw [← HN.out]; exact hlt)
   obtain ⟨x, hxx⟩ : ∃ x, x = l[i]'(by rw [← HN.out]; exact hlt) := ⟨_, rfl⟩
   rw [← hxx] at hx
   have c0 := HC.out i x hx
   have HE : Hid ((if x = 0 then firstE (l.drop (i + 1)) else x) = M) := Lib.hid (by
    rw [← HI.out, List.drop_eq_getElem_cons (show i < l.length by rw [← HN.out]; exact hlt), ← hxx]
    rfl)
   clear HI hx hxx
   rcases Int.decEq x 0 with he | he
   ·have d0 : (x != 0) = true := by simpa using he
    have HE2 : Hid (x = M) := Lib.hid (by rw [← HE.out, if_neg he])
    clear he HE
    go_wp2_with fail
    go_ret
    exact ⟨by first | rfl | (rw [HE2.out]; rfl), rfl⟩
   ·subst he
    have HE2 : Hid (firstE (l.drop (i + 1)) = M) := Lib.hid (by rw [← HE.out, if_pos rfl])
    clear HE
    go_wp2_with fail
    go_round
    case rel => exact ⟨i + 1, by go_num, by omega, HE2⟩
    case measure => simp [intOf]; omega
  ·have hlt' : ¬ (i : Int) < (n : Int) := by omega
   have HE2 : Hid ((0 : Int) = M) := Lib.hid (by
    rw [← HI.out, List.drop_eq_nil_of_le (by rw [← HN.out]; omega)]
    rfl)
   go_wp2_with fail
   go_ret
   exact ⟨by first | rfl | (rw [HE2.out]; rfl), rfl⟩
set_option maxRecDepth 100000 in
set_option maxHeartbeats 1000000 in
theorem in107 (x a b : Int) (w : World) : Calls Tryz.prog 107 #[.int .i64 x, .int .i64 a, .int .i64 b] w fun e w' => e = .returned (.bool (decide (a ≤ x) && decide (x ≤ b))) ∧ w = w' := by
 by_cases h1 : a ≤ x
 ·by_cases h2 : x ≤ b
  ·have d1 : decide (a ≤ x) = true := by simpa using h1
   have d2 : decide (x ≤ b) = true := by simpa using h2
   go_enter Tryz.func107, Tryz.ntmps107
   go_wp2_with fail
   go_ret
   exact ⟨by first | rfl | (rw [d1, d2]; rfl), rfl⟩
  ·have d1 : decide (a ≤ x) = true := by simpa using h1
   have d2 : decide (x ≤ b) = false := by simpa using h2
   go_enter Tryz.func107, Tryz.ntmps107
   go_wp2_with fail
   go_ret
   exact ⟨rfl, rfl⟩
 ·have d1 : decide (a ≤ x) = false := by simpa using h1
  go_enter Tryz.func107, Tryz.ntmps107
  go_wp2_with fail
  go_ret
  exact ⟨rfl, rfl⟩
end Go.Proofs.YtmhhcfceikcfbaaGreat
