/- Walks: pairs: comparing, checking, scoring, choosing. -/
import Derived.Test.YtbpegoekjlehcaaW2
import Derived.Laws.StructEq
namespace Go.Proofs.Ytbpegoekjlehcaa
open Go.RowKit

theorem st62 : Try.prog.stoodInHeld 62 = false := by kernel_rfl
theorem gd62 : Try.prog.eqGuardType Try.prog.depth 62 = false := by kernel_rfl
theorem st46 : Try.prog.stoodInHeld 46 = false := by kernel_rfl
theorem gd46 : Try.prog.eqGuardType Try.prog.depth 46 = false := by kernel_rfl
theorem run_eq62 (W : World) (a b c d : Int) : (Op.equalIn 10000 62 (.agg #[.int .i64 a, .int .i64 b]) (.agg #[.int .i64 c, .int .i64 d])).run Try.prog W = .ok (a == c && b == d) W := by
  rw [run_equalIn_agg W 9999 62 _ _ (by kernel_rfl) st62]
  cases h : a == c <;> cases h' : b == d <;> simp [go_sem, h, h']
theorem run_eq46 (W : World) (a b c d : Int) : (Op.equalIn 10000 46 (.agg #[.int .i64 a, .int .i64 b]) (.agg #[.int .i64 c, .int .i64 d])).run Try.prog W = .ok (a == c && b == d) W := by
  rw [run_equalIn_agg W 9999 46 _ _ (by kernel_rfl) st46]
  cases h : a == c <;> cases h' : b == d <;> simp [go_sem, h, h']
theorem run_gd62 (W : World) (op : BinOp) (x y : Operand) (xs ys : Array Value) : (eqGuard op 62 x y (.agg xs) (.agg ys)).run Try.prog W = .ok () W := run_eqGuard_agg W op 62 x y xs ys gd62
theorem run_gd46 (W : World) (op : BinOp) (x y : Operand) (xs ys : Array Value) : (eqGuard op 46 x y (.agg xs) (.agg ys)).run Try.prog W = .ok () W := run_eqGuard_agg W op 46 x y xs ys gd46
attribute [local go_sem] run_eq62 run_gd62

set_option maxHeartbeats 400000 in
theorem samePairs_any (va vb : Value) (p q : List Tok) (w : World) (ha : Toks w w.heap.size va p) (hb : Toks w w.heap.size vb q) :
    Calls Try.prog 18 #[va, vb] w fun e w' => e = .returned (.bool (decide (p = q))) ∧ Below w.heap.size w w' := by
  obtain ⟨A, c, rfl, hn, hc, HA⟩ := ha.tok
  obtain ⟨A', c', rfl, hn', hc', HB⟩ := hb.tok
  clear ha hb
  by_cases hpq : p.length = q.length
  · have hne : ((p.length : Int) != (q.length : Int)) = false := by simp [hpq]
    have HL := Lib.hid hpq
    clear hpq
    go_enter Try.func18, Try.ntmps18
    go_wp2
    go_loopw [5] (fun i wr => ∃ k : Nat, k ≤ p.length ∧ i = .int .i64 k ∧ p.take k = q.take k ∧ Below w.heap.size w wr) (fun i _ => p.length - (intOf i).toNat)
    case atStart => exact ⟨0, Nat.zero_le _, rfl, rfl, Below.refl _ _⟩
    case round =>
      obtain ⟨k, hk, rfl, hck, hb⟩ := hrel
      have HCK := Lib.hid hck; clear hck
      have hbz := hb.size
      by_cases hlt : k < p.length
      · have hlq : k < q.length := by have := HL.out; omega
        obtain ⟨b, o, rfl, hbB, g1, g2⟩ := (HA.below hb) k hlt
        obtain ⟨b', o', rfl, hbB', g1', g2'⟩ := (HB.below hb) k hlq
        by_cases h1 : p[k].1 = q[k].1 <;> by_cases h2 : p[k].2 = q[k].2
        all_goals
          go_wp2
          go_quiet (fail)
          go_wp2
        all_goals first
          | (go_ret
             exact ⟨ret_bool (by
               rw [eq_comm, decide_eq_false_iff_not]
               rintro rfl
               first | exact h1 rfl | exact h2 rfl), below_drewN hb _⟩)
          | (go_roundw
             case rel => exact ⟨k + 1, by omega, by go_num, by
               rw [List.take_succ_eq_append_getElem hlt, List.take_succ_eq_append_getElem hlq, HCK.out, Prod.ext h1 h2], below_drewN hb _⟩
             case measure => simp [intOf]; omega)
      · go_wp2
        go_ret
        refine ⟨ret_bool ?_, hb⟩
        have e1 := HCK.out
        have e2 := HL.out
        rw [List.take_of_length_le (by omega), List.take_of_length_le (by omega)] at e1
        simp [e1]
  · have hne : ((p.length : Int) != (q.length : Int)) = true := by rw [bne_iff_ne]; omega
    have HL := Lib.hid hpq
    clear hpq
    go_enter Try.func18, Try.ntmps18
    go_wp2
    go_ret
    refine ⟨ret_bool ?_, Below.refl _ _⟩
    rw [eq_comm, decide_eq_false_iff_not]
    rintro rfl
    exact HL.out rfl

end Go.Proofs.Ytbpegoekjlehcaa
