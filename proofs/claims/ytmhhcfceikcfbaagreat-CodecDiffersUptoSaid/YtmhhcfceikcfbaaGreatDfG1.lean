/- Walks: small checks; a function asked for all indices. -/
import Derived.Deep.CutRange
import Derived.Test.YtmhhcfceikcfbaaGreatDfK0
import Derived.Test.YtmhhcfceikcfbaaGreatDfS2
namespace Go.Proofs.YtmhhcfceikcfbaaGreat
open Go.RowKit
def inB (n lo hi : Int) : Bool := decide (lo ≤ n) && decide (n ≤ hi)
/-- A function asked for the indices from 0 on, until it tells an error. -/
def AllC (V : Int) (Fin : World → Prop) (e : Ending) (w' : World) : Prop := e = .returned (.int .i64 V) ∧ Fin w'
def StepC (V : Int) (Fin : World → Prop) (Nx : World → Prop) (e : Ending) (w' : World) : Prop := ∃ r : Int, e = .returned (.int .i64 r) ∧ ((r ≠ 0 ∧ r = V ∧ Fin w') ∨ (r = 0 ∧ Nx w'))
theorem run_callv {f : FuncId} {lb : Array Value} {a : Act} {w : World} {o : Oper} {x y : Operand} {ts : Array TypeId} {v : Value} (hent : ∀ args w, (callFunc f args).run Tryz.prog w = .ok (.enter f args) w)
  (ho : o.op = .call { callee := .value x, args := #[y], argTypes := ts } := by rfl) (hx : a.eval x = .func (.func f) #[] lb := by rfl) (hy : a.eval y = v := by rfl) : (execOp a.eval o).run Tryz.prog w = .ok (.enter f (#[v] ++ lb)) w := by
 unfold execOp
 simp only [ho]
 simp [resolve, hx, hy, Deferred.ofValue, invoke, hent]
set_option maxRecDepth 100000 in
set_option maxHeartbeats 4000000 in
theorem all102 (F : FuncId) (lb : Array Value) (hent : ∀ args w, (callFunc F args).run Tryz.prog w = .ok (.enter F args) w) (n : Nat) (hn : n ≤ 9223372036854775807) (V : Int) (Inv : Nat → World → Prop) (Fin : World → Prop) (w : World) (h0 : Inv 0 w)
  (hstep : ∀ i, i < n → ∀ W, Inv i W → Calls Tryz.prog F (#[.int .i64 (i : Int)] ++ lb) W (StepC V Fin (Inv (i + 1)))) (hend : ∀ W, Inv n W → V = 0 ∧ Fin W) :
  Calls Tryz.prog 102 #[.int .i64 (n : Int), .func (.func F) #[] lb] w (AllC V Fin) := by
 have HI0 := Lib.hid h0
 have HS := Lib.hid hstep
 have HE := Lib.hid hend
 have HT := Lib.hid hent
 clear h0 hstep hend hent
 go_enter Tryz.func102, Tryz.ntmps102
 go_wp2_with fail
 go_loopw [8] (fun iv wr => ∃ i : Nat, iv = .int .i64 (i : Int) ∧ i ≤ n ∧ Hid (Inv i wr)) (fun iv _ => n - (intOf iv).toNat)
 case atStart => exact ⟨0, rfl, Nat.zero_le _, HI0⟩
 case round =>
  obtain ⟨i, rfl, hin, HI⟩ := hrel
  clear HI0
  by_cases hlt : i < n
  ·have hlt' : (i : Int) < (n : Int) := by omega
   go_upto_region 4 with fail
   refine wp_region_seq0 (by rfl) ?_
   simp only [List.map]
   refine sq_pure (.func (.func F) #[] lb) (by go_simp) trivial ?_
   simp only [Act.put, PutA, PutZ, PutS]
   refine sq_pure (.int .i64 (i : Int)) (by go_simp) trivial ?_
   simp only [Act.put, PutA, PutZ, PutS]
   refine sq_call F (#[.int .i64 (i : Int)] ++ lb) (run_callv HT.out) ?_
   refine Calls.mono (HS.out i hlt wr HI.out) ?_
   rintro e w2 ⟨r, rfl, hr⟩
   have HR := Lib.hid hr
   clear hr
   refine ⟨_, rfl, trivial, ?_⟩
   simp only [Act.put, PutA, PutZ, PutS]
   refine sq_pure (.int .i64 r) (by go_simp) trivial ?_
   simp only [Act.put, PutA, PutZ, PutS]
   refine sq_done ?_
   by_cases h : r = 0
   ·subst h
    have HN : Hid (Inv (i + 1) w2) := Lib.hid (by
     rcases HR.out with ⟨q, _⟩ | ⟨_, q⟩
     ·exact absurd rfl q
     ·exact q)
    clear HR HI
    go_wp2_with fail
    exact ⟨⟨i + 1, by go_num, by omega, HN⟩, by simp [intOf]; omega⟩
   ·have b1 : (r == 0) = false := by rw [beq_eq_false_iff_ne]; exact h
    have HN : Hid (r = V ∧ Fin w2) := Lib.hid (by
     rcases HR.out with ⟨_, q⟩ | ⟨q, _⟩
     ·exact q
     ·exact absurd q h)
    clear HR HI h
    go_wp2_with fail
    go_ret
    exact ⟨by rw [← HN.out.1]; rfl, HN.out.2⟩
  ·have hlt' : ¬ (i : Int) < (n : Int) := by omega
   obtain rfl : i = n := by omega
   have HF := Lib.hid (HE.out wr HI.out)
   clear HI
   go_wp2_with fail
   go_ret
   exact ⟨by rw [HF.out.1]; rfl, HF.out.2⟩
/-- The error of an id in a list of increasing ids. -/
def incE (ids : Nat → Int) (i : Nat) : Int := if (decide (1 ≤ ids i) && decide (ids i ≤ 1073741824)) = false then 18 else if 0 < i ∧ ids i = ids (i - 1) then 7 else if 0 < i ∧ ids i < ids (i - 1) then 6 else 0
set_option maxRecDepth 100000 in
set_option maxHeartbeats 4000000 in
theorem inc104 (F : FuncId) (lb : Array Value) (hent : ∀ args w, (callFunc F args).run Tryz.prog w = .ok (.enter F args) w) (ids : Nat → Int) (i : Nat) (hi : i ≤ 9223372036854775807) (w : World)
  (hC : ∀ k, k ≤ i → ∀ W, Below w.heap.size w W → Calls Tryz.prog F (#[.int .i64 (k : Int)] ++ lb) W (RetI (ids k) W)) :
  Calls Tryz.prog 104 #[.int .i64 (i : Int), .func (.func F) #[] lb] w (RetI (incE ids i) w) := by
 obtain ⟨V, hV⟩ : ∃ V, V = incE ids i := ⟨_, rfl⟩
 rw [← hV]
 unfold incE at hV
 obtain ⟨m, hm⟩ : ∃ m, m = i - 1 := ⟨_, rfl⟩
 rw [← hm] at hV
 have HM := Lib.hid hm
 have HS := Lib.hid hV
 have HC := Lib.hid hC
 have HT := Lib.hid hent
 have HB0 := Lib.hid (Below.refl w.heap.size w)
 clear hV hC hent hm
 go_enter Tryz.func104, Tryz.ntmps104
 go_upto_region 1 with fail
 refine wp_region_seq0 (by rfl) ?_
 simp only [List.map]
 refine sq_pure (.func (.func F) #[] lb) (by go_simp) trivial ?_
 simp only [Act.put, PutA, PutZ, PutS]
 refine sq_pure (.int .i64 (i : Int)) (by go_simp) trivial ?_
 simp only [Act.put, PutA, PutZ, PutS]
 refine sq_call F (#[.int .i64 (i : Int)] ++ lb) (run_callv HT.out) ?_
 refine Calls.mono (HC.out i (by omega) _ HB0.out) ?_
 rintro e w1 ⟨rfl, hb1⟩
 have HB := Lib.hid hb1
 clear hb1 HB0
 refine ⟨_, rfl, trivial, ?_⟩
 simp only [Act.put, PutA, PutZ, PutS]
 refine sq_call 107 #[.int .i64 (ids i), .int .i64 1, .int .i64 1073741824] (by go_simp) ?_
 refine Calls.mono (in107 (ids i) 1 1073741824 w1) ?_
 rintro e w2 ⟨rfl, rfl⟩
 obtain ⟨bb, hbb⟩ : ∃ b, b = (decide (1 ≤ ids i) && decide (ids i ≤ 1073741824)) := ⟨_, rfl⟩
 rw [← hbb] at HS ⊢
 clear hbb
 refine ⟨_, rfl, trivial, ?_⟩
 simp only [Act.put, PutA, PutZ, PutS]
 refine sq_pure (.bool (!bb)) (by go_simp) trivial ?_
 simp only [Act.put, PutA, PutZ, PutS]
 refine sq_pure (.bool (!bb)) (by go_simp) trivial ?_
 simp only [Act.put, PutA, PutZ, PutS]
 refine sq_done ?_
 cases bb
 ·have HF := Lib.hid (show V = 18 from HS.out.trans (if_pos rfl))
  clear HS
  go_wp2_with fail
  go_ret
  exact ⟨by rw [HF.out]; rfl, HB.out⟩
 ·replace HS := Lib.hid (show V = _ from HS.out.trans (if_neg (by decide)))
  go_upto_region 3 with fail
  go_cut [11] from 12 to 23 (fun bv wr => bv = .bool (decide (0 < i ∧ ids i = ids m)) ∧ Hid (Below w.heap.size w wr))
  case first =>
   by_cases h0 : i = 0
   ·have dz : decide (0 < (i : Int)) = false := by simp; omega
    have dz3 : decide (0 < i) = false := by simp; omega
    have dP : decide (0 < i ∧ ids i = ids m) = false := by rw [decide_eq_false_iff_not]; omega
    go_wp2_with fail
    go_meet
    case rel => exact ⟨by rw [dP], HB⟩
   ·have hi2 : decide ((0 : Int) < (i : Int)) = true := by simp; omega
    have hi3 : decide (0 < i) = true := by simp; omega
    have em : IntKind.i64.wrap ((i : Int) - 1) = (m : Int) := by rw [IntWalk.i64_in _ (by omega)]; have := HM.out; omega
    have em2 : wrap64 ((i : Int) - 1) = (m : Int) := by rw [IntWalk.wrap64_in _ (by omega)]; have := HM.out; omega
    have em3 : (i : Int) - 1 = (m : Int) := by have := HM.out; omega
    have em4 : IntKind.i64.wrap (m : Int) = (m : Int) := IntWalk.i64_in _ (by have := HM.out; omega)
    by_cases hq : ids i = ids m
    ·have dP : decide (0 < i ∧ ids i = ids m) = true := by rw [decide_eq_true_iff]; exact ⟨by omega, hq⟩
     have dq := (show (ids i == ids m) = true by rw [beq_iff_eq]; exact hq)
     refine wp_region_guard0 ?_
     simp only [List.map]
     refine hd_run rfl ?_
     refine sq_pure (.int .i64 (i : Int)) (by go_simp) trivial ?_
     refine sq_done ?_
     simp only [Act.put, PutA, PutZ, PutS]
     refine hd_run rfl ?_
     refine sq_pure (.bool true) (by go_simp) trivial ?_
     refine sq_done ?_
     simp only [Act.put, PutA, PutZ, PutS]
     refine hd_run rfl ?_
     refine sq_pure (.bool true) (by go_simp) trivial ?_
     refine sq_done ?_
     simp only [Act.put, PutA, PutZ, PutS]
     refine hd_run rfl ?_
     refine sq_pure (.func (.func F) #[] lb) (by go_simp) trivial ?_
     refine sq_done ?_
     simp only [Act.put, PutA, PutZ, PutS]
     refine hd_run rfl ?_
     refine sq_pure (.int .i64 (i : Int)) (by go_simp) trivial ?_
     refine sq_done ?_
     simp only [Act.put, PutA, PutZ, PutS]
     refine hd_run rfl ?_
     refine sq_call F (#[.int .i64 (i : Int)] ++ lb) (run_callv HT.out) ?_
     refine Calls.mono (HC.out i (by have := HM.out; omega) _ HB.out) ?_
     rintro e wa ⟨rfl, hb⟩
     have HBa := Lib.hid (HB.out.trans (hb.mono HB.out.size))
     clear hb
     refine ⟨_, rfl, trivial, ?_⟩
     refine sq_done ?_
     simp only [Act.put, PutA, PutZ, PutS]
     refine hd_run rfl ?_
     refine sq_pure (.func (.func F) #[] lb) (by go_simp) trivial ?_
     refine sq_done ?_
     simp only [Act.put, PutA, PutZ, PutS]
     refine hd_run rfl ?_
     refine sq_pure (.int .i64 (i : Int)) (by go_simp) trivial ?_
     refine sq_done ?_
     simp only [Act.put, PutA, PutZ, PutS]
     refine hd_run rfl ?_
     refine sq_pure (.int .i64 (m : Int)) (by go_simp) trivial ?_
     refine sq_done ?_
     simp only [Act.put, PutA, PutZ, PutS]
     refine hd_run rfl ?_
     refine sq_call F (#[.int .i64 (m : Int)] ++ lb) (run_callv HT.out) ?_
     refine Calls.mono (HC.out m (by have := HM.out; omega) _ HBa.out) ?_
     rintro e wb ⟨rfl, hb⟩
     have HBb := Lib.hid (HBa.out.trans (hb.mono HBa.out.size))
     clear hb
     refine ⟨_, rfl, trivial, ?_⟩
     refine sq_done ?_
     simp only [Act.put, PutA, PutZ, PutS]
     refine hd_run rfl ?_
     refine sq_pure (.bool true) (by go_simp) trivial ?_
     refine sq_done ?_
     simp only [Act.put, PutA, PutZ, PutS]
     refine hd_run rfl ?_
     refine sq_pure (.bool true) (by go_simp) trivial ?_
     refine sq_done ?_
     simp only [Act.put, PutA, PutZ, PutS]
     refine hd_run rfl ?_
     refine sq_pure (.bool true) (by go_simp) trivial ?_
     refine sq_done ?_
     simp only [Act.put, PutA, PutZ, PutS]
     refine NoPanic.normal (NoPanic.normal ?_)
     go_wp2_with fail
     go_meet
     case rel => exact ⟨by rw [dP], HBb⟩
    ·have dP : decide (0 < i ∧ ids i = ids m) = false := by rw [decide_eq_false_iff_not]; exact fun q => hq q.2
     have dq := (show (ids i == ids m) = false by rw [beq_eq_false_iff_ne]; exact hq)
     refine wp_region_guard0 ?_
     simp only [List.map]
     refine hd_run rfl ?_
     refine sq_pure (.int .i64 (i : Int)) (by go_simp) trivial ?_
     refine sq_done ?_
     simp only [Act.put, PutA, PutZ, PutS]
     refine hd_run rfl ?_
     refine sq_pure (.bool true) (by go_simp) trivial ?_
     refine sq_done ?_
     simp only [Act.put, PutA, PutZ, PutS]
     refine hd_run rfl ?_
     refine sq_pure (.bool true) (by go_simp) trivial ?_
     refine sq_done ?_
     simp only [Act.put, PutA, PutZ, PutS]
     refine hd_run rfl ?_
     refine sq_pure (.func (.func F) #[] lb) (by go_simp) trivial ?_
     refine sq_done ?_
     simp only [Act.put, PutA, PutZ, PutS]
     refine hd_run rfl ?_
     refine sq_pure (.int .i64 (i : Int)) (by go_simp) trivial ?_
     refine sq_done ?_
     simp only [Act.put, PutA, PutZ, PutS]
     refine hd_run rfl ?_
     refine sq_call F (#[.int .i64 (i : Int)] ++ lb) (run_callv HT.out) ?_
     refine Calls.mono (HC.out i (by have := HM.out; omega) _ HB.out) ?_
     rintro e wa ⟨rfl, hb⟩
     have HBa := Lib.hid (HB.out.trans (hb.mono HB.out.size))
     clear hb
     refine ⟨_, rfl, trivial, ?_⟩
     refine sq_done ?_
     simp only [Act.put, PutA, PutZ, PutS]
     refine hd_run rfl ?_
     refine sq_pure (.func (.func F) #[] lb) (by go_simp) trivial ?_
     refine sq_done ?_
     simp only [Act.put, PutA, PutZ, PutS]
     refine hd_run rfl ?_
     refine sq_pure (.int .i64 (i : Int)) (by go_simp) trivial ?_
     refine sq_done ?_
     simp only [Act.put, PutA, PutZ, PutS]
     refine hd_run rfl ?_
     refine sq_pure (.int .i64 (m : Int)) (by go_simp) trivial ?_
     refine sq_done ?_
     simp only [Act.put, PutA, PutZ, PutS]
     refine hd_run rfl ?_
     refine sq_call F (#[.int .i64 (m : Int)] ++ lb) (run_callv HT.out) ?_
     refine Calls.mono (HC.out m (by have := HM.out; omega) _ HBa.out) ?_
     rintro e wb ⟨rfl, hb⟩
     have HBb := Lib.hid (HBa.out.trans (hb.mono HBa.out.size))
     clear hb
     refine ⟨_, rfl, trivial, ?_⟩
     refine sq_done ?_
     simp only [Act.put, PutA, PutZ, PutS]
     refine hd_run rfl ?_
     refine sq_pure (.bool false) (by go_simp) trivial ?_
     refine sq_done ?_
     simp only [Act.put, PutA, PutZ, PutS]
     refine hd_run rfl ?_
     refine sq_pure (.bool false) (by go_simp) trivial ?_
     refine sq_done ?_
     simp only [Act.put, PutA, PutZ, PutS]
     refine hd_run rfl ?_
     refine sq_pure (.bool false) (by go_simp) trivial ?_
     refine sq_done ?_
     simp only [Act.put, PutA, PutZ, PutS]
     refine NoPanic.normal (NoPanic.normal ?_)
     go_wp2_with fail
     go_meet
     case rel => exact ⟨by rw [dP], HBb⟩
  case rest =>
   obtain ⟨rfl, HB⟩ := hcut
   by_cases hP1 : 0 < i ∧ ids i = ids m
   ·have dP : decide (0 < i ∧ ids i = ids m) = true := by rw [decide_eq_true_iff]; exact hP1
    have HF := Lib.hid (show V = 7 from HS.out.trans (if_pos hP1))
    rw [dP]
    clear HS
    go_wp2_with fail
    go_ret
    exact ⟨by rw [HF.out]; rfl, HB.out⟩
   ·have dP : decide (0 < i ∧ ids i = ids m) = false := by rw [decide_eq_false_iff_not]; exact hP1
    replace HS := Lib.hid (show V = _ from HS.out.trans (if_neg hP1))
    rw [dP]
    clear dP
    go_upto_region 5 with fail
    go_cut [24] from 25 to 36 (fun bv wr => bv = .bool (decide (0 < i ∧ ids i < ids m)) ∧ Hid (Below w.heap.size w wr))
    case first =>
     by_cases h0 : i = 0
     ·have dz : decide (0 < (i : Int)) = false := by simp; omega
      have dz3 : decide (0 < i) = false := by simp; omega
      have dP : decide (0 < i ∧ ids i < ids m) = false := by rw [decide_eq_false_iff_not]; omega
      go_wp2_with fail
      go_meet
      case rel => exact ⟨by rw [dP], HB⟩
     ·have hi2 : decide ((0 : Int) < (i : Int)) = true := by simp; omega
      have hi3 : decide (0 < i) = true := by simp; omega
      have em : IntKind.i64.wrap ((i : Int) - 1) = (m : Int) := by rw [IntWalk.i64_in _ (by omega)]; have := HM.out; omega
      have em2 : wrap64 ((i : Int) - 1) = (m : Int) := by rw [IntWalk.wrap64_in _ (by omega)]; have := HM.out; omega
      have em3 : (i : Int) - 1 = (m : Int) := by have := HM.out; omega
      have em4 : IntKind.i64.wrap (m : Int) = (m : Int) := IntWalk.i64_in _ (by have := HM.out; omega)
      by_cases hq : ids i < ids m
      ·have dP : decide (0 < i ∧ ids i < ids m) = true := by rw [decide_eq_true_iff]; exact ⟨by omega, hq⟩
       have dq := (show decide (ids i < ids m) = true by simpa using hq)
       refine wp_region_guard0 ?_
       simp only [List.map]
       refine hd_run rfl ?_
       refine sq_pure (.int .i64 (i : Int)) (by go_simp) trivial ?_
       refine sq_done ?_
       simp only [Act.put, PutA, PutZ, PutS]
       refine hd_run rfl ?_
       refine sq_pure (.bool true) (by go_simp) trivial ?_
       refine sq_done ?_
       simp only [Act.put, PutA, PutZ, PutS]
       refine hd_run rfl ?_
       refine sq_pure (.bool true) (by go_simp) trivial ?_
       refine sq_done ?_
       simp only [Act.put, PutA, PutZ, PutS]
       refine hd_run rfl ?_
       refine sq_pure (.func (.func F) #[] lb) (by go_simp) trivial ?_
       refine sq_done ?_
       simp only [Act.put, PutA, PutZ, PutS]
       refine hd_run rfl ?_
       refine sq_pure (.int .i64 (i : Int)) (by go_simp) trivial ?_
       refine sq_done ?_
       simp only [Act.put, PutA, PutZ, PutS]
       refine hd_run rfl ?_
       refine sq_call F (#[.int .i64 (i : Int)] ++ lb) (run_callv HT.out) ?_
       refine Calls.mono (HC.out i (by have := HM.out; omega) _ HB.out) ?_
       rintro e wa ⟨rfl, hb⟩
       have HBa := Lib.hid (HB.out.trans (hb.mono HB.out.size))
       clear hb
       refine ⟨_, rfl, trivial, ?_⟩
       refine sq_done ?_
       simp only [Act.put, PutA, PutZ, PutS]
       refine hd_run rfl ?_
       refine sq_pure (.func (.func F) #[] lb) (by go_simp) trivial ?_
       refine sq_done ?_
       simp only [Act.put, PutA, PutZ, PutS]
       refine hd_run rfl ?_
       refine sq_pure (.int .i64 (i : Int)) (by go_simp) trivial ?_
       refine sq_done ?_
       simp only [Act.put, PutA, PutZ, PutS]
       refine hd_run rfl ?_
       refine sq_pure (.int .i64 (m : Int)) (by go_simp) trivial ?_
       refine sq_done ?_
       simp only [Act.put, PutA, PutZ, PutS]
       refine hd_run rfl ?_
       refine sq_call F (#[.int .i64 (m : Int)] ++ lb) (run_callv HT.out) ?_
       refine Calls.mono (HC.out m (by have := HM.out; omega) _ HBa.out) ?_
       rintro e wb ⟨rfl, hb⟩
       have HBb := Lib.hid (HBa.out.trans (hb.mono HBa.out.size))
       clear hb
       refine ⟨_, rfl, trivial, ?_⟩
       refine sq_done ?_
       simp only [Act.put, PutA, PutZ, PutS]
       refine hd_run rfl ?_
       refine sq_pure (.bool true) (by go_simp) trivial ?_
       refine sq_done ?_
       simp only [Act.put, PutA, PutZ, PutS]
       refine hd_run rfl ?_
       refine sq_pure (.bool true) (by go_simp) trivial ?_
       refine sq_done ?_
       simp only [Act.put, PutA, PutZ, PutS]
       refine hd_run rfl ?_
       refine sq_pure (.bool true) (by go_simp) trivial ?_
       refine sq_done ?_
       simp only [Act.put, PutA, PutZ, PutS]
       refine NoPanic.normal (NoPanic.normal ?_)
       go_wp2_with fail
       go_meet
       case rel => exact ⟨by rw [dP], HBb⟩
      ·have dP : decide (0 < i ∧ ids i < ids m) = false := by rw [decide_eq_false_iff_not]; exact fun q => hq q.2
       have dq := (show decide (ids i < ids m) = false by simpa using hq)
       refine wp_region_guard0 ?_
       simp only [List.map]
       refine hd_run rfl ?_
       refine sq_pure (.int .i64 (i : Int)) (by go_simp) trivial ?_
       refine sq_done ?_
       simp only [Act.put, PutA, PutZ, PutS]
       refine hd_run rfl ?_
       refine sq_pure (.bool true) (by go_simp) trivial ?_
       refine sq_done ?_
       simp only [Act.put, PutA, PutZ, PutS]
       refine hd_run rfl ?_
       refine sq_pure (.bool true) (by go_simp) trivial ?_
       refine sq_done ?_
       simp only [Act.put, PutA, PutZ, PutS]
       refine hd_run rfl ?_
       refine sq_pure (.func (.func F) #[] lb) (by go_simp) trivial ?_
       refine sq_done ?_
       simp only [Act.put, PutA, PutZ, PutS]
       refine hd_run rfl ?_
       refine sq_pure (.int .i64 (i : Int)) (by go_simp) trivial ?_
       refine sq_done ?_
       simp only [Act.put, PutA, PutZ, PutS]
       refine hd_run rfl ?_
       refine sq_call F (#[.int .i64 (i : Int)] ++ lb) (run_callv HT.out) ?_
       refine Calls.mono (HC.out i (by have := HM.out; omega) _ HB.out) ?_
       rintro e wa ⟨rfl, hb⟩
       have HBa := Lib.hid (HB.out.trans (hb.mono HB.out.size))
       clear hb
       refine ⟨_, rfl, trivial, ?_⟩
       refine sq_done ?_
       simp only [Act.put, PutA, PutZ, PutS]
       refine hd_run rfl ?_
       refine sq_pure (.func (.func F) #[] lb) (by go_simp) trivial ?_
       refine sq_done ?_
       simp only [Act.put, PutA, PutZ, PutS]
       refine hd_run rfl ?_
       refine sq_pure (.int .i64 (i : Int)) (by go_simp) trivial ?_
       refine sq_done ?_
       simp only [Act.put, PutA, PutZ, PutS]
       refine hd_run rfl ?_
       refine sq_pure (.int .i64 (m : Int)) (by go_simp) trivial ?_
       refine sq_done ?_
       simp only [Act.put, PutA, PutZ, PutS]
       refine hd_run rfl ?_
       refine sq_call F (#[.int .i64 (m : Int)] ++ lb) (run_callv HT.out) ?_
       refine Calls.mono (HC.out m (by have := HM.out; omega) _ HBa.out) ?_
       rintro e wb ⟨rfl, hb⟩
       have HBb := Lib.hid (HBa.out.trans (hb.mono HBa.out.size))
       clear hb
       refine ⟨_, rfl, trivial, ?_⟩
       refine sq_done ?_
       simp only [Act.put, PutA, PutZ, PutS]
       refine hd_run rfl ?_
       refine sq_pure (.bool false) (by go_simp) trivial ?_
       refine sq_done ?_
       simp only [Act.put, PutA, PutZ, PutS]
       refine hd_run rfl ?_
       refine sq_pure (.bool false) (by go_simp) trivial ?_
       refine sq_done ?_
       simp only [Act.put, PutA, PutZ, PutS]
       refine hd_run rfl ?_
       refine sq_pure (.bool false) (by go_simp) trivial ?_
       refine sq_done ?_
       simp only [Act.put, PutA, PutZ, PutS]
       refine NoPanic.normal (NoPanic.normal ?_)
       go_wp2_with fail
       go_meet
       case rel => exact ⟨by rw [dP], HBb⟩
    case rest =>
     obtain ⟨rfl, HB⟩ := hcut
     by_cases hP2 : 0 < i ∧ ids i < ids m
     ·have dP : decide (0 < i ∧ ids i < ids m) = true := by rw [decide_eq_true_iff]; exact hP2
      have HF := Lib.hid (show V = 6 from HS.out.trans (if_pos hP2))
      rw [dP]
      clear HS
      go_wp2_with fail
      go_ret
      exact ⟨by rw [HF.out]; rfl, HB.out⟩
     ·have dP : decide (0 < i ∧ ids i < ids m) = false := by rw [decide_eq_false_iff_not]; exact hP2
      replace HS := Lib.hid (show V = _ from HS.out.trans (if_neg hP2))
      rw [dP]
      clear dP
      go_wp2_with fail
      go_ret
      exact ⟨by rw [HS.out]; rfl, HB.out⟩
def authB (s : ByteArray) : Bool := decide (1 ≤ s.size ∧ s.size ≤ 40) && validB s
def txtE (s : ByteArray) : Int := firstE [if (!validB s) then 12 else 0, if 1024 < s.size then 10 else 0]
set_option maxRecDepth 100000 in
set_option maxHeartbeats 4000000 in
theorem author106 (s : ByteArray) (w : World) (hs : s.size ≤ 1048576000) : Calls Tryz.prog 106 #[.string s] w (RetB (authB s) w) := by
 obtain ⟨V, hV⟩ : ∃ V, V = authB s := ⟨_, rfl⟩
 rw [← hV]
 unfold authB at hV
 have C := Lib.hid (valid_lib s w hs)
 change Hid (Calls _ _ _ _ fun e w' => e = .returned (.bool (validB s)) ∧ w = w') at C
 obtain ⟨vb, hvb⟩ : ∃ b, b = validB s := ⟨_, rfl⟩
 rw [← hvb] at hV C
 clear hvb
 by_cases h1 : 1 ≤ s.size
 ·have p1 : (s.size : Int) ≥ 1 := by omega
  by_cases h2 : s.size ≤ 40
  ·have p2 : (s.size : Int) ≤ 40 := by omega
   have HV := Lib.hid (show V = vb by rw [hV]; simp [h1, h2])
   clear hV
   go_enter Tryz.func106, Tryz.ntmps106
   go_wp2_with fail
   refine C.out.mono ?_
   rintro e w1 ⟨rfl, rfl⟩
   go_wp2_with fail
   go_ret
   exact ⟨by rw [HV.out]; rfl, Below.refl _ _⟩
  ·have p2 : ¬ (s.size : Int) ≤ 40 := by omega
   have HV := Lib.hid (show V = false by rw [hV]; simp; omega)
   clear hV
   go_enter Tryz.func106, Tryz.ntmps106
   go_wp2_with fail
   go_ret
   exact ⟨by rw [HV.out]; rfl, Below.refl _ _⟩
 ·have p1 : (s.size : Int) < 1 := by omega
  have p2 : ¬ (s.size : Int) ≥ 1 := by omega
  have HV := Lib.hid (show V = false by rw [hV]; simp; omega)
  clear hV
  go_enter Tryz.func106, Tryz.ntmps106
  go_wp2_with fail
  go_ret
  exact ⟨by rw [HV.out]; rfl, Below.refl _ _⟩
set_option maxRecDepth 100000 in
set_option maxHeartbeats 4000000 in
theorem text183 (s : ByteArray) (w : World) (hs : s.size ≤ 1048576000) : Calls Tryz.prog 183 #[.string s] w (RetI (txtE s) w) := by
 obtain ⟨V, hV⟩ : ∃ V, V = txtE s := ⟨_, rfl⟩
 rw [← hV]
 unfold txtE at hV
 have C := Lib.hid (valid_lib s w hs)
 change Hid (Calls _ _ _ _ fun e w' => e = .returned (.bool (validB s)) ∧ w = w') at C
 obtain ⟨vb, hvb⟩ : ∃ b, b = (if !validB s then (12 : Int) else 0) := ⟨_, rfl⟩
 obtain ⟨sb, hsb⟩ : ∃ b, b = (if 1024 < s.size then (10 : Int) else 0) := ⟨_, rfl⟩
 rw [← hvb, ← hsb] at hV
 have C1 := Lib.hid (fun W => when51 (!validB s) 12 W)
 have C2 := Lib.hid (fun W => when51 (decide ((s.size : Int) > 1024)) 10 W)
 have e2 : (if decide ((s.size : Int) > 1024) = true then (10 : Int) else 0) = sb := by rw [hsb]; by_cases h : 1024 < s.size <;> simp [h] <;> omega
 rw [← hvb] at C1
 rw [e2] at C2
 have HV := Lib.hid hV
 obtain ⟨W1, hW1⟩ : ∃ W, W = w.alloc (.cells #[.int .i64 vb, .int .i64 sb] 23) := ⟨_, rfl⟩
 have hb : W1.heap[w.heap.size]? = some (.cells #[.int .i64 vb, .int .i64 sb] 23 (0, 0)) := by rw [hW1]; exact heap_alloc_new w _
 have C3 := Lib.hid (first46 [vb, sb] w.heap.size 2 W1 (fun j x hx => (blk_cell hb j).trans (by
  match j, hx with
  | 0, hx => cases hx; rfl
  | 1, hx => cases hx; rfl)) (by simp))
 have HBW := Lib.hid (show Below w.heap.size w W1 by rw [hW1]; exact (Below.refl _ _).alloc (Nat.le_refl _) _)
 have HW1 := Lib.hid hW1
 clear hV hvb hsb e2 hW1 hb
 go_enter Tryz.func183, Tryz.ntmps183
 go_wp2_with fail
 refine C.out.mono ?_
 rintro e w1 ⟨rfl, rfl⟩
 clear C
 go_wp2_with fail
 refine (C1.out _).mono ?_
 rintro e w2 ⟨rfl, rfl⟩
 clear C1
 go_wp2_with fail
 refine (C2.out _).mono ?_
 rintro e w2 ⟨rfl, rfl⟩
 clear C2
 go_wp2_with fail
 rw [← HW1.out]
 refine C3.out.mono ?_
 rintro e w2 ⟨rfl, rfl⟩
 clear C3 HW1
 go_wp2_with fail
 go_ret
 exact ⟨by rw [HV.out]; rfl, HBW.out⟩
end Go.Proofs.YtmhhcfceikcfbaaGreat
