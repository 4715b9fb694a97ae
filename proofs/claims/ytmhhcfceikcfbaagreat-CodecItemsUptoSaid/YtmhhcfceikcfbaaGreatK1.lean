/- Walks: the check of an empty document. -/
import Derived.Test.YtmhhcfceikcfbaaGreatSq
import Derived.Test.YtmhhcfceikcfbaaGreatRx
namespace Go.Proofs.YtmhhcfceikcfbaaGreat
open Go.RowKit

/-- The first fault. -/
def firstE : List Int → Int
  | [] => 0
  | x :: r => if x = 0 then firstE r else x

set_option maxRecDepth 100000 in
set_option maxHeartbeats 1000000 in
theorem when51 (b : Bool) (x : Int) (w : World) :
    Calls Tryz.prog 51 #[.bool b, .int .i64 x] w fun e w' => e = .returned (.int .i64 (if b then x else 0)) ∧ w = w' := by
  cases b
  · go_enter Tryz.func51, Tryz.ntmps51
    go_wp2_with fail
    go_ret
    exact ⟨rfl, rfl⟩
  · go_enter Tryz.func51, Tryz.ntmps51
    go_wp2_with fail
    go_ret
    exact ⟨rfl, rfl⟩

set_option maxRecDepth 100000 in
set_option maxHeartbeats 1000000 in
theorem first46 (l : List Int) (g c : Nat) (w : World) (hc : ∀ (j : Nat) (x : Int), l[j]? = some x → w.cell? ⟨g, j, none⟩ = some (.int .i64 x)) (hl : l.length ≤ 1000) :
    Calls Tryz.prog 46 #[.slice (some ⟨g, 0, none⟩) l.length c] w fun e w' => e = .returned (.int .i64 (firstE l)) ∧ w = w' := by
  obtain ⟨M, hM⟩ : ∃ M, M = firstE l := ⟨_, rfl⟩
  have HM : Hid (firstE (l.drop 0) = M) := Lib.hid (by rw [hM]; rfl)
  have HC := Lib.hid hc
  obtain ⟨n, hn⟩ : ∃ n, n = l.length := ⟨_, rfl⟩
  have hn2 : n ≤ 1000 := by omega
  rw [← hM, ← hn]
  have HN := Lib.hid hn
  clear hc hM hn
  go_enter Tryz.func46, Tryz.ntmps46
  go_wp2_with fail
  go_loop [7] (fun iv => ∃ i : Nat, iv = .int .i64 (i : Int) ∧ i ≤ n ∧ Hid (firstE (l.drop i) = M)) (fun iv => n - (intOf iv).toNat)
  case atStart => exact ⟨0, rfl, Nat.zero_le _, HM⟩
  case round =>
    obtain ⟨i, rfl, hin, HI⟩ := hrel
    clear HM
    by_cases hlt : i < n
    · have hlt' : (i : Int) < (n : Int) := by omega
      have hx : l[i]? = some (l[i]'(by rw [← HN.out]; exact hlt)) := List.getElem?_eq_getElem (by rw [← HN.out]; exact hlt)
      obtain ⟨x, hxx⟩ : ∃ x, x = l[i]'(by rw [← HN.out]; exact hlt) := ⟨_, rfl⟩
      rw [← hxx] at hx
      have c0 := HC.out i x hx
      have HE : Hid ((if x = 0 then firstE (l.drop (i + 1)) else x) = M) := Lib.hid (by
        rw [← HI.out, List.drop_eq_getElem_cons (show i < l.length by rw [← HN.out]; exact hlt), ← hxx]
        rfl)
      clear HI hx hxx
      rcases Int.decEq x 0 with he | he
      · have d0 : (x != 0) = true := by simpa using he
        have HE2 : Hid (x = M) := Lib.hid (by rw [← HE.out, if_neg he])
        clear he HE
        go_wp2_with fail
        go_ret
        exact ⟨by first | rfl | (rw [HE2.out]; rfl), rfl⟩
      · subst he
        have HE2 : Hid (firstE (l.drop (i + 1)) = M) := Lib.hid (by rw [← HE.out, if_pos rfl])
        clear HE
        go_wp2_with fail
        go_round
        case rel => exact ⟨i + 1, by go_num, by omega, HE2⟩
        case measure => simp [intOf]; omega
    · have hlt' : ¬ (i : Int) < (n : Int) := by omega
      have HE2 : Hid ((0 : Int) = M) := Lib.hid (by
        rw [← HI.out, List.drop_eq_nil_of_le (by rw [← HN.out]; omega)]
        rfl)
      go_wp2_with fail
      go_ret
      exact ⟨by first | rfl | (rw [HE2.out]; rfl), rfl⟩

set_option maxRecDepth 100000 in
set_option maxHeartbeats 1000000 in
theorem all102_none (f : Value) (w : World) : Calls Tryz.prog 102 #[.int .i64 0, f] w fun e w' => e = .returned (.int .i64 0) ∧ w = w' := by
  go_enter Tryz.func102, Tryz.ntmps102
  go_wp2_with fail
  go_loop [8] (fun iv => iv = .int .i64 0) (fun _ => 0)
  case atStart => rfl
  case round =>
    subst hrel
    go_wp2_with fail
    go_ret
    exact ⟨rfl, rfl⟩

/-- No fault. -/
def Ok0 (w : World) (e : Ending) (w' : World) : Prop := e = .returned (.int .i64 0) ∧ Below w.heap.size w w'

set_option maxRecDepth 100000 in
set_option maxHeartbeats 1000000 in
theorem prop108_none (w : World) : Calls Tryz.prog 108 #[.int .i64 3, .slice none 0 0] w fun e w' => e = .returned (.int .i64 0) ∧ w = w' := by
  go_enter Tryz.func108, Tryz.ntmps108
  go_wp2_with fail
  go_loop [16] (fun iv => iv = .int .i64 0) (fun _ => 0)
  case atStart => rfl
  case round =>
    subst hrel
    go_wp2_with fail
    go_ret
    exact ⟨rfl, rfl⟩

set_option maxRecDepth 100000 in
set_option maxHeartbeats 1000000 in
theorem sheet98_none (w : World) : Calls Tryz.prog 98 #[.slice none 0 0] w (Ok0 w) := by
  obtain ⟨W, hW⟩ : ∃ W, W = (w.alloc (.cells #[.slice none 0 0] 42)).alloc (.cells #[.int .i64 0] 23) := ⟨_, rfl⟩
  have hb : Below w.heap.size w W := by rw [hW]; exact ((Below.refl _ _).alloc (Nat.le_refl _) _).alloc (by simp) _
  have c0 : W.cell? ⟨w.heap.size, 0, none⟩ = some (.slice none 0 0) := by
    rw [hW]
    exact (World.cell?_of_block (Below.heap_alloc _ _ _ (by simp))).trans (blk_cell (heap_alloc_new w _) 0)
  have hb1 : W.heap[w.heap.size + 1]? = some (.cells #[.int .i64 0] 23 (0, 0)) := by
    rw [hW]
    exact heap_alloc_new' _ _ (by simp)
  have c1 := blk_cell hb1 0
  have f1 := blk_free hb1 0
  have HB := Lib.hid hb
  have HB1 := Lib.hid hb1
  have HW := Lib.hid hW
  clear hb hb1 hW
  go_enter Tryz.func98, Tryz.ntmps98
  go_upto_region 1 with fail
  rw [← HW.out]
  go_wp2_with fail
  go_loopw [15] (fun iv wr => iv = .int .i64 0 ∧ wr = W) (fun _ _ => 0)
  case atStart => exact ⟨rfl, rfl⟩
  case round =>
    obtain ⟨rfl, rfl⟩ := hrel
    go_wp2_with fail
    go_loopw [27] (fun iv wr2 => iv = .int .i64 0 ∧ wr2 = wr) (fun _ _ => 0)
    case atStart => exact ⟨rfl, rfl⟩
    case round =>
      obtain ⟨rfl, rfl⟩ := hrel
      go_wp2_with fail
      go_loopw [63] (fun iv wr3 => iv = .int .i64 0 ∧ wr3 = wr) (fun _ _ => 0)
      case atStart => exact ⟨rfl, rfl⟩
      case round =>
        obtain ⟨rfl, rfl⟩ := hrel
        go_wp2_with fail
        refine bodyPost_ret (v := .int .i64 0) ?_ rfl ⟨rfl, HB.out.setCell (by simp) _⟩
        have hc9 := blk_cell (heap_setCell_same wr (w.heap.size + 1) 0 #[.int .i64 0] 23 (.int .i64 0) HB1.out) 0
        have hres : Tryz.f98.results = #[.cell 2 23] := by kernel_rfl
        simp only [results, hres]
        go_simp

set_option maxRecDepth 100000 in
set_option maxHeartbeats 1000000 in
theorem nil99 (w : World) : Calls Tryz.prog 99 #[.slice none 0 0] w (Ok0 w) := by
  have hb : (w.alloc (.cells #[.slice none 0 0] 43)).heap[w.heap.size]? = some (.cells #[.slice none 0 0] 43 (0, 0)) := heap_alloc_new w _
  go_enter Tryz.func99, Tryz.ntmps99
  go_upto_region 1 with fail
  refine wp_region_seq (S := fun w' => w'.heap[w.heap.size]? = some (.cells #[.slice none 0 0] 43 (0, 0))) [(true, 0), (true, 1), (true, 2), (true, 4), (true, 5), (true, 6), (true, 7), (false, 3), (false, 8), (false, 9), (false, 10), (true, 11)] (by kernel_rfl) (by kernel_rfl) hb ?_
  simp only [pickL, List.getElem?_cons_succ, List.getElem?_cons_zero]
  refine sq_load (.slice none 0 0) (fun w' hS => by have hq := blk_cell hS 0; go_simp) ?_
  simp only [Act.put, List.setIfInBounds_toArray, List.set_cons_zero, List.set_cons_succ]
  refine sq_load (.int .i64 0) (fun w' hS => by go_simp) ?_
  simp only [Act.put, List.setIfInBounds_toArray, List.set_cons_zero, List.set_cons_succ]
  refine sq_load (.bool false) (fun w' hS => by go_simp) ?_
  simp only [Act.put, List.setIfInBounds_toArray, List.set_cons_zero, List.set_cons_succ]
  refine sq_load (.slice none 0 0) (fun w' hS => by have hq := blk_cell hS 0; go_simp) ?_
  simp only [Act.put, List.setIfInBounds_toArray, List.set_cons_zero, List.set_cons_succ]
  refine sq_load (.int .i64 0) (fun w' hS => by go_simp) ?_
  simp only [Act.put, List.setIfInBounds_toArray, List.set_cons_zero, List.set_cons_succ]
  refine sq_load (.int .i64 0) (fun w' hS => by go_simp) ?_
  simp only [Act.put, List.setIfInBounds_toArray, List.set_cons_zero, List.set_cons_succ]
  refine sq_load (.func (.func 176) #[] #[.pointer (some ⟨w.heap.size, 0, none⟩)]) (fun w' hS => by go_simp) ?_
  simp only [Act.put, List.setIfInBounds_toArray, List.set_cons_zero, List.set_cons_succ]
  refine sq_call 51 #[.bool false, .int .i64 9] (by go_simp) ?_
  refine Calls.mono (when51 false 9 _) ?_
  rintro e w1 ⟨rfl, rfl⟩
  refine ⟨_, rfl, hb, ?_⟩
  simp only [Act.put, List.setIfInBounds_toArray, List.set_cons_zero, List.set_cons_succ]
  refine sq_call 102 #[.int .i64 0, .func (.func 176) #[] #[.pointer (some ⟨w.heap.size, 0, none⟩)]] (by go_simp) ?_
  refine Calls.mono (all102_none _ _) ?_
  rintro e w1 ⟨rfl, rfl⟩
  refine ⟨_, rfl, hb, ?_⟩
  simp only [Act.put, List.setIfInBounds_toArray, List.set_cons_zero, List.set_cons_succ]
  refine sq_value (.slice (some ⟨w.heap.size + 1, 0, none⟩) 2 2) (((w.alloc (.cells #[.slice none 0 0] 43)).drew).alloc (.cells #[.int .i64 0, .int .i64 0] 23)) (by go_simp) ?_ ?_
  · exact (Below.heap_alloc _ _ _ (by simp)).trans hb
  simp only [Act.put, List.setIfInBounds_toArray, List.set_cons_zero, List.set_cons_succ]
  refine sq_call 46 #[.slice (some ⟨w.heap.size + 1, 0, none⟩) 2 2] (by go_simp) ?_
  refine Calls.mono (first46 [0, 0] (w.heap.size + 1) 2 _ (fun j x hj => (blk_cell (heap_alloc_new' _ _ (by simp)) j).trans (by match j with | 0 => simp at hj; subst hj; rfl | 1 => simp at hj; subst hj; rfl | j + 2 => simp at hj)) (by simp)) ?_
  rintro e w1 ⟨rfl, rfl⟩
  refine ⟨_, rfl, (Below.heap_alloc _ _ _ (by simp)).trans hb, ?_⟩
  simp only [Act.put, List.setIfInBounds_toArray, List.set_cons_zero, List.set_cons_succ]
  refine sq_load (.int .i64 (firstE [0, 0])) (fun w' hS => by go_simp) ?_
  simp only [Act.put, List.setIfInBounds_toArray, List.set_cons_zero, List.set_cons_succ]
  refine sq_done ?_
  go_wp2_with fail
  go_ret
  exact ⟨rfl, (((Below.refl _ _).alloc (Nat.le_refl _) _).drew).alloc (by simp) _⟩

set_option maxRecDepth 100000 in
set_option maxHeartbeats 1000000 in
theorem nil100 (w : World) : Calls Tryz.prog 100 #[.slice none 0 0] w (Ok0 w) := by
  have hb : (w.alloc (.cells #[.slice none 0 0] 44)).heap[w.heap.size]? = some (.cells #[.slice none 0 0] 44 (0, 0)) := heap_alloc_new w _
  go_enter Tryz.func100, Tryz.ntmps100
  go_upto_region 1 with fail
  refine wp_region_seq (S := fun w' => w'.heap[w.heap.size]? = some (.cells #[.slice none 0 0] 44 (0, 0))) [(true, 0), (true, 1), (true, 2), (true, 4), (true, 5), (true, 6), (true, 7), (false, 3), (false, 8), (false, 9), (false, 10), (true, 11)] (by kernel_rfl) (by kernel_rfl) hb ?_
  simp only [pickL, List.getElem?_cons_succ, List.getElem?_cons_zero]
  refine sq_load (.slice none 0 0) (fun w' hS => by have hq := blk_cell hS 0; go_simp) ?_
  simp only [Act.put, List.setIfInBounds_toArray, List.set_cons_zero, List.set_cons_succ]
  refine sq_load (.int .i64 0) (fun w' hS => by go_simp) ?_
  simp only [Act.put, List.setIfInBounds_toArray, List.set_cons_zero, List.set_cons_succ]
  refine sq_load (.bool false) (fun w' hS => by go_simp) ?_
  simp only [Act.put, List.setIfInBounds_toArray, List.set_cons_zero, List.set_cons_succ]
  refine sq_load (.slice none 0 0) (fun w' hS => by have hq := blk_cell hS 0; go_simp) ?_
  simp only [Act.put, List.setIfInBounds_toArray, List.set_cons_zero, List.set_cons_succ]
  refine sq_load (.int .i64 0) (fun w' hS => by go_simp) ?_
  simp only [Act.put, List.setIfInBounds_toArray, List.set_cons_zero, List.set_cons_succ]
  refine sq_load (.int .i64 0) (fun w' hS => by go_simp) ?_
  simp only [Act.put, List.setIfInBounds_toArray, List.set_cons_zero, List.set_cons_succ]
  refine sq_load (.func (.func 179) #[] #[.pointer (some ⟨w.heap.size, 0, none⟩)]) (fun w' hS => by go_simp) ?_
  simp only [Act.put, List.setIfInBounds_toArray, List.set_cons_zero, List.set_cons_succ]
  refine sq_call 51 #[.bool false, .int .i64 9] (by go_simp) ?_
  refine Calls.mono (when51 false 9 _) ?_
  rintro e w1 ⟨rfl, rfl⟩
  refine ⟨_, rfl, hb, ?_⟩
  simp only [Act.put, List.setIfInBounds_toArray, List.set_cons_zero, List.set_cons_succ]
  refine sq_call 102 #[.int .i64 0, .func (.func 179) #[] #[.pointer (some ⟨w.heap.size, 0, none⟩)]] (by go_simp) ?_
  refine Calls.mono (all102_none _ _) ?_
  rintro e w1 ⟨rfl, rfl⟩
  refine ⟨_, rfl, hb, ?_⟩
  simp only [Act.put, List.setIfInBounds_toArray, List.set_cons_zero, List.set_cons_succ]
  refine sq_value (.slice (some ⟨w.heap.size + 1, 0, none⟩) 2 2) (((w.alloc (.cells #[.slice none 0 0] 44)).drew).alloc (.cells #[.int .i64 0, .int .i64 0] 23)) (by go_simp) ?_ ?_
  · exact (Below.heap_alloc _ _ _ (by simp)).trans hb
  simp only [Act.put, List.setIfInBounds_toArray, List.set_cons_zero, List.set_cons_succ]
  refine sq_call 46 #[.slice (some ⟨w.heap.size + 1, 0, none⟩) 2 2] (by go_simp) ?_
  refine Calls.mono (first46 [0, 0] (w.heap.size + 1) 2 _ (fun j x hj => (blk_cell (heap_alloc_new' _ _ (by simp)) j).trans (by match j with | 0 => simp at hj; subst hj; rfl | 1 => simp at hj; subst hj; rfl | j + 2 => simp at hj)) (by simp)) ?_
  rintro e w1 ⟨rfl, rfl⟩
  refine ⟨_, rfl, (Below.heap_alloc _ _ _ (by simp)).trans hb, ?_⟩
  simp only [Act.put, List.setIfInBounds_toArray, List.set_cons_zero, List.set_cons_succ]
  refine sq_load (.int .i64 (firstE [0, 0])) (fun w' hS => by go_simp) ?_
  simp only [Act.put, List.setIfInBounds_toArray, List.set_cons_zero, List.set_cons_succ]
  refine sq_done ?_
  go_wp2_with fail
  go_ret
  exact ⟨rfl, (((Below.refl _ _).alloc (Nat.le_refl _) _).drew).alloc (by simp) _⟩

set_option maxRecDepth 100000 in
set_option maxHeartbeats 1000000 in
theorem nil101 (w : World) : Calls Tryz.prog 101 #[.slice none 0 0] w (Ok0 w) := by
  have hb : (w.alloc (.cells #[.slice none 0 0] 45)).heap[w.heap.size]? = some (.cells #[.slice none 0 0] 45 (0, 0)) := heap_alloc_new w _
  go_enter Tryz.func101, Tryz.ntmps101
  go_upto_region 1 with fail
  refine wp_region_seq (S := fun w' => w'.heap[w.heap.size]? = some (.cells #[.slice none 0 0] 45 (0, 0))) [(true, 0), (true, 1), (true, 2), (true, 4), (true, 5), (true, 6), (true, 7), (false, 3), (false, 8), (false, 9), (false, 10), (true, 11)] (by kernel_rfl) (by kernel_rfl) hb ?_
  simp only [pickL, List.getElem?_cons_succ, List.getElem?_cons_zero]
  refine sq_load (.slice none 0 0) (fun w' hS => by have hq := blk_cell hS 0; go_simp) ?_
  simp only [Act.put, List.setIfInBounds_toArray, List.set_cons_zero, List.set_cons_succ]
  refine sq_load (.int .i64 0) (fun w' hS => by go_simp) ?_
  simp only [Act.put, List.setIfInBounds_toArray, List.set_cons_zero, List.set_cons_succ]
  refine sq_load (.bool false) (fun w' hS => by go_simp) ?_
  simp only [Act.put, List.setIfInBounds_toArray, List.set_cons_zero, List.set_cons_succ]
  refine sq_load (.slice none 0 0) (fun w' hS => by have hq := blk_cell hS 0; go_simp) ?_
  simp only [Act.put, List.setIfInBounds_toArray, List.set_cons_zero, List.set_cons_succ]
  refine sq_load (.int .i64 0) (fun w' hS => by go_simp) ?_
  simp only [Act.put, List.setIfInBounds_toArray, List.set_cons_zero, List.set_cons_succ]
  refine sq_load (.int .i64 0) (fun w' hS => by go_simp) ?_
  simp only [Act.put, List.setIfInBounds_toArray, List.set_cons_zero, List.set_cons_succ]
  refine sq_load (.func (.func 184) #[] #[.pointer (some ⟨w.heap.size, 0, none⟩)]) (fun w' hS => by go_simp) ?_
  simp only [Act.put, List.setIfInBounds_toArray, List.set_cons_zero, List.set_cons_succ]
  refine sq_call 51 #[.bool false, .int .i64 9] (by go_simp) ?_
  refine Calls.mono (when51 false 9 _) ?_
  rintro e w1 ⟨rfl, rfl⟩
  refine ⟨_, rfl, hb, ?_⟩
  simp only [Act.put, List.setIfInBounds_toArray, List.set_cons_zero, List.set_cons_succ]
  refine sq_call 102 #[.int .i64 0, .func (.func 184) #[] #[.pointer (some ⟨w.heap.size, 0, none⟩)]] (by go_simp) ?_
  refine Calls.mono (all102_none _ _) ?_
  rintro e w1 ⟨rfl, rfl⟩
  refine ⟨_, rfl, hb, ?_⟩
  simp only [Act.put, List.setIfInBounds_toArray, List.set_cons_zero, List.set_cons_succ]
  refine sq_value (.slice (some ⟨w.heap.size + 1, 0, none⟩) 2 2) (((w.alloc (.cells #[.slice none 0 0] 45)).drew).alloc (.cells #[.int .i64 0, .int .i64 0] 23)) (by go_simp) ?_ ?_
  · exact (Below.heap_alloc _ _ _ (by simp)).trans hb
  simp only [Act.put, List.setIfInBounds_toArray, List.set_cons_zero, List.set_cons_succ]
  refine sq_call 46 #[.slice (some ⟨w.heap.size + 1, 0, none⟩) 2 2] (by go_simp) ?_
  refine Calls.mono (first46 [0, 0] (w.heap.size + 1) 2 _ (fun j x hj => (blk_cell (heap_alloc_new' _ _ (by simp)) j).trans (by match j with | 0 => simp at hj; subst hj; rfl | 1 => simp at hj; subst hj; rfl | j + 2 => simp at hj)) (by simp)) ?_
  rintro e w1 ⟨rfl, rfl⟩
  refine ⟨_, rfl, (Below.heap_alloc _ _ _ (by simp)).trans hb, ?_⟩
  simp only [Act.put, List.setIfInBounds_toArray, List.set_cons_zero, List.set_cons_succ]
  refine sq_load (.int .i64 (firstE [0, 0])) (fun w' hS => by go_simp) ?_
  simp only [Act.put, List.setIfInBounds_toArray, List.set_cons_zero, List.set_cons_succ]
  refine sq_done ?_
  go_wp2_with fail
  go_ret
  exact ⟨rfl, (((Below.refl _ _).alloc (Nat.le_refl _) _).drew).alloc (by simp) _⟩

set_option maxRecDepth 100000 in
set_option maxHeartbeats 1000000 in
theorem nil48 (w : World) : Calls Tryz.prog 48 #[.slice none 0 0] w (Ok0 w) := by
  have hb : (w.alloc (.cells #[.slice none 0 0] 41)).heap[w.heap.size]? = some (.cells #[.slice none 0 0] 41 (0, 0)) := heap_alloc_new w _
  go_enter Tryz.func48, Tryz.ntmps48
  go_upto_region 1 with fail
  refine wp_region_seq (S := fun w' => w'.heap[w.heap.size]? = some (.cells #[.slice none 0 0] 41 (0, 0))) [(true, 0), (true, 1), (true, 2), (true, 4), (true, 5), (true, 6), (true, 7), (false, 3), (false, 8), (false, 9), (false, 10), (true, 11)] (by kernel_rfl) (by kernel_rfl) hb ?_
  simp only [pickL, List.getElem?_cons_succ, List.getElem?_cons_zero]
  refine sq_load (.slice none 0 0) (fun w' hS => by have hq := blk_cell hS 0; go_simp) ?_
  simp only [Act.put, List.setIfInBounds_toArray, List.set_cons_zero, List.set_cons_succ]
  refine sq_load (.int .i64 0) (fun w' hS => by go_simp) ?_
  simp only [Act.put, List.setIfInBounds_toArray, List.set_cons_zero, List.set_cons_succ]
  refine sq_load (.bool false) (fun w' hS => by go_simp) ?_
  simp only [Act.put, List.setIfInBounds_toArray, List.set_cons_zero, List.set_cons_succ]
  refine sq_load (.slice none 0 0) (fun w' hS => by have hq := blk_cell hS 0; go_simp) ?_
  simp only [Act.put, List.setIfInBounds_toArray, List.set_cons_zero, List.set_cons_succ]
  refine sq_load (.int .i64 0) (fun w' hS => by go_simp) ?_
  simp only [Act.put, List.setIfInBounds_toArray, List.set_cons_zero, List.set_cons_succ]
  refine sq_load (.int .i64 0) (fun w' hS => by go_simp) ?_
  simp only [Act.put, List.setIfInBounds_toArray, List.set_cons_zero, List.set_cons_succ]
  refine sq_load (.func (.func 103) #[] #[.pointer (some ⟨w.heap.size, 0, none⟩)]) (fun w' hS => by go_simp) ?_
  simp only [Act.put, List.setIfInBounds_toArray, List.set_cons_zero, List.set_cons_succ]
  refine sq_call 51 #[.bool false, .int .i64 9] (by go_simp) ?_
  refine Calls.mono (when51 false 9 _) ?_
  rintro e w1 ⟨rfl, rfl⟩
  refine ⟨_, rfl, hb, ?_⟩
  simp only [Act.put, List.setIfInBounds_toArray, List.set_cons_zero, List.set_cons_succ]
  refine sq_call 102 #[.int .i64 0, .func (.func 103) #[] #[.pointer (some ⟨w.heap.size, 0, none⟩)]] (by go_simp) ?_
  refine Calls.mono (all102_none _ _) ?_
  rintro e w1 ⟨rfl, rfl⟩
  refine ⟨_, rfl, hb, ?_⟩
  simp only [Act.put, List.setIfInBounds_toArray, List.set_cons_zero, List.set_cons_succ]
  refine sq_value (.slice (some ⟨w.heap.size + 1, 0, none⟩) 2 2) (((w.alloc (.cells #[.slice none 0 0] 41)).drew).alloc (.cells #[.int .i64 0, .int .i64 0] 23)) (by go_simp) ?_ ?_
  · exact (Below.heap_alloc _ _ _ (by simp)).trans hb
  simp only [Act.put, List.setIfInBounds_toArray, List.set_cons_zero, List.set_cons_succ]
  refine sq_call 46 #[.slice (some ⟨w.heap.size + 1, 0, none⟩) 2 2] (by go_simp) ?_
  refine Calls.mono (first46 [0, 0] (w.heap.size + 1) 2 _ (fun j x hj => (blk_cell (heap_alloc_new' _ _ (by simp)) j).trans (by match j with | 0 => simp at hj; subst hj; rfl | 1 => simp at hj; subst hj; rfl | j + 2 => simp at hj)) (by simp)) ?_
  rintro e w1 ⟨rfl, rfl⟩
  refine ⟨_, rfl, (Below.heap_alloc _ _ _ (by simp)).trans hb, ?_⟩
  simp only [Act.put, List.setIfInBounds_toArray, List.set_cons_zero, List.set_cons_succ]
  refine sq_load (.int .i64 (firstE [0, 0])) (fun w' hS => by go_simp) ?_
  simp only [Act.put, List.setIfInBounds_toArray, List.set_cons_zero, List.set_cons_succ]
  refine sq_done ?_
  go_wp2_with fail
  go_ret
  exact ⟨rfl, (((Below.refl _ _).alloc (Nat.le_refl _) _).drew).alloc (by simp) _⟩

set_option maxRecDepth 100000 in
set_option maxHeartbeats 1000000 in
theorem nil47 (w : World) : Calls Tryz.prog 47 #[.agg #[.slice none 0 0, .slice none 0 0, .slice none 0 0, .slice none 0 0]] w (Ok0 w) := by
  have hb : (w.alloc (.cells #[.slice none 0 0, .slice none 0 0, .slice none 0 0, .slice none 0 0] 47)).heap[w.heap.size]? = some (.cells #[.slice none 0 0, .slice none 0 0, .slice none 0 0, .slice none 0 0] 47 (0, 0)) := heap_alloc_new w _
  have hB : Below w.heap.size w (w.alloc (.cells #[.slice none 0 0, .slice none 0 0, .slice none 0 0, .slice none 0 0] 47)).drew := ((Below.refl _ _).alloc (Nat.le_refl _) _).drew
  go_enter Tryz.func47, Tryz.ntmps47
  go_upto_region 1 with fail
  refine wp_region_seq (S := fun w' => w'.heap[w.heap.size]? = some (.cells #[.slice none 0 0, .slice none 0 0, .slice none 0 0, .slice none 0 0] 47 (0, 0))) [(true, 0), (true, 1), (true, 3), (true, 4), (true, 6), (true, 7), (true, 9), (true, 10), (false, 2), (false, 5), (false, 8), (false, 11), (false, 12), (false, 13), (true, 14)] (by kernel_rfl) (by kernel_rfl) hb ?_
  simp only [pickL, List.getElem?_cons_succ, List.getElem?_cons_zero]
  refine sq_load (.pointer (some ⟨w.heap.size, 0, none⟩)) (fun w' hS => by go_simp) ?_
  simp only [Act.put, List.setIfInBounds_toArray, List.set_cons_zero, List.set_cons_succ]
  refine sq_load (.slice none 0 0) (fun w' hS => by have hq := blk_cell hS 0; go_simp) ?_
  simp only [Act.put, List.setIfInBounds_toArray, List.set_cons_zero, List.set_cons_succ]
  refine sq_load (.pointer (some ⟨w.heap.size, 1, none⟩)) (fun w' hS => by go_simp) ?_
  simp only [Act.put, List.setIfInBounds_toArray, List.set_cons_zero, List.set_cons_succ]
  refine sq_load (.slice none 0 0) (fun w' hS => by have hq := blk_cell hS 1; go_simp) ?_
  simp only [Act.put, List.setIfInBounds_toArray, List.set_cons_zero, List.set_cons_succ]
  refine sq_load (.pointer (some ⟨w.heap.size, 2, none⟩)) (fun w' hS => by go_simp) ?_
  simp only [Act.put, List.setIfInBounds_toArray, List.set_cons_zero, List.set_cons_succ]
  refine sq_load (.slice none 0 0) (fun w' hS => by have hq := blk_cell hS 2; go_simp) ?_
  simp only [Act.put, List.setIfInBounds_toArray, List.set_cons_zero, List.set_cons_succ]
  refine sq_load (.pointer (some ⟨w.heap.size, 3, none⟩)) (fun w' hS => by go_simp) ?_
  simp only [Act.put, List.setIfInBounds_toArray, List.set_cons_zero, List.set_cons_succ]
  refine sq_load (.slice none 0 0) (fun w' hS => by have hq := blk_cell hS 3; go_simp) ?_
  simp only [Act.put, List.setIfInBounds_toArray, List.set_cons_zero, List.set_cons_succ]
  refine sq_call 98 #[.slice none 0 0] (by go_simp) ?_
  refine Calls.mono (sheet98_none _) ?_
  rintro e w1 ⟨rfl, hb1⟩
  replace hb := (hb1.block _ (lt_of_blk hb)).trans hb
  replace hB := hB.trans (hb1.mono hB.size)
  clear hb1
  refine ⟨_, rfl, hb, ?_⟩
  simp only [Act.put, List.setIfInBounds_toArray, List.set_cons_zero, List.set_cons_succ]
  refine sq_call 99 #[.slice none 0 0] (by go_simp) ?_
  refine Calls.mono (nil99 _) ?_
  rintro e w1 ⟨rfl, hb1⟩
  replace hb := (hb1.block _ (lt_of_blk hb)).trans hb
  replace hB := hB.trans (hb1.mono hB.size)
  clear hb1
  refine ⟨_, rfl, hb, ?_⟩
  simp only [Act.put, List.setIfInBounds_toArray, List.set_cons_zero, List.set_cons_succ]
  refine sq_call 100 #[.slice none 0 0] (by go_simp) ?_
  refine Calls.mono (nil100 _) ?_
  rintro e w1 ⟨rfl, hb1⟩
  replace hb := (hb1.block _ (lt_of_blk hb)).trans hb
  replace hB := hB.trans (hb1.mono hB.size)
  clear hb1
  refine ⟨_, rfl, hb, ?_⟩
  simp only [Act.put, List.setIfInBounds_toArray, List.set_cons_zero, List.set_cons_succ]
  refine sq_call 101 #[.slice none 0 0] (by go_simp) ?_
  refine Calls.mono (nil101 _) ?_
  rintro e w1 ⟨rfl, hb1⟩
  replace hb := (hb1.block _ (lt_of_blk hb)).trans hb
  replace hB := hB.trans (hb1.mono hB.size)
  clear hb1
  refine ⟨_, rfl, hb, ?_⟩
  simp only [Act.put, List.setIfInBounds_toArray, List.set_cons_zero, List.set_cons_succ]
  refine sq_value (.slice (some ⟨w1.heap.size, 0, none⟩) 4 4) (w1.alloc (.cells #[.int .i64 0, .int .i64 0, .int .i64 0, .int .i64 0] 23)) (by go_simp) ?_ ?_
  · exact (Below.heap_alloc _ _ _ (lt_of_blk hb)).trans hb
  simp only [Act.put, List.setIfInBounds_toArray, List.set_cons_zero, List.set_cons_succ]
  refine sq_call 46 #[.slice (some ⟨w1.heap.size, 0, none⟩) 4 4] (by go_simp) ?_
  refine Calls.mono (first46 [0, 0, 0, 0] w1.heap.size 4 _ (fun j x hj => (blk_cell (heap_alloc_new w1 _) j).trans (by match j with | 0 => simp at hj; subst hj; rfl | 1 => simp at hj; subst hj; rfl | 2 => simp at hj; subst hj; rfl | 3 => simp at hj; subst hj; rfl | j + 4 => simp at hj)) (by simp)) ?_
  rintro e w2 ⟨rfl, rfl⟩
  refine ⟨_, rfl, (Below.heap_alloc _ _ _ (lt_of_blk hb)).trans hb, ?_⟩
  simp only [Act.put, List.setIfInBounds_toArray, List.set_cons_zero, List.set_cons_succ]
  refine sq_load (.int .i64 (firstE [0, 0, 0, 0])) (fun w' hS => by go_simp) ?_
  simp only [Act.put, List.setIfInBounds_toArray, List.set_cons_zero, List.set_cons_succ]
  refine sq_done ?_
  go_wp2_with fail
  go_ret
  exact ⟨rfl, hB.alloc hB.size _⟩

/-- A new checker's world. -/
def Q49 (w W : World) : Prop := Below (w.heap.size + 1) (w.alloc (.cells #[.slice none 0 0, .slice none 0 0, .int .i64 0, .int .i64 0, .slice none 0 0, .slice none 0 0, .slice none 0 0, .slice none 0 0, .slice none 0 0, .slice none 0 0, .slice none 0 0] 49)) W ∧ W.cell? ⟨w.heap.size + 6, 5, none⟩ = some (.int .i64 0)
theorem Q49.cell {w W : World} (h : Q49 w W) (j : Nat) : W.cell? ⟨w.heap.size, j, none⟩ = (w.alloc (.cells #[.slice none 0 0, .slice none 0 0, .int .i64 0, .int .i64 0, .slice none 0 0, .slice none 0 0, .slice none 0 0, .slice none 0 0, .slice none 0 0, .slice none 0 0, .slice none 0 0] 49)).cell? ⟨w.heap.size, j, none⟩ := h.1.cell (p := ⟨w.heap.size, j, none⟩) (by simp)

set_option maxRecDepth 100000 in
set_option maxHeartbeats 1000000 in
theorem nil49 (w : World) : Calls Tryz.prog 49 #[.agg #[.slice none 0 0, .slice none 0 0, .int .i64 0, .int .i64 0, .slice none 0 0, .slice none 0 0, .slice none 0 0, .slice none 0 0, .slice none 0 0, .slice none 0 0, .slice none 0 0]] w fun e w' => ∃ g, e = .returned (.pointer (some ⟨g, 0, none⟩)) ∧ Below w.heap.size w w' ∧ w'.cell? ⟨g, 5, none⟩ = some (.int .i64 0) := by
  have hb : (w.alloc (.cells #[.slice none 0 0, .slice none 0 0, .int .i64 0, .int .i64 0, .slice none 0 0, .slice none 0 0, .slice none 0 0, .slice none 0 0, .slice none 0 0, .slice none 0 0, .slice none 0 0] 49)).heap[w.heap.size]? = some (.cells #[.slice none 0 0, .slice none 0 0, .int .i64 0, .int .i64 0, .slice none 0 0, .slice none 0 0, .slice none 0 0, .slice none 0 0, .slice none 0 0, .slice none 0 0, .slice none 0 0] 49 (0, 0)) := heap_alloc_new w _
  have C7 := Lib.hid (blk_cell hb 7)
  have C8 := Lib.hid (blk_cell hb 8)
  have C6 := Lib.hid (blk_cell hb 6)
  have hmm := @run_makeMap Tryz.prog
  clear hb
  go_enter Tryz.func49, Tryz.ntmps49
  go_wp2_with fail
  go_loopw [21] (fun iv wr => iv = .int .i64 0 ∧ Hid (Q49 w wr)) (fun _ _ => 0)
  case atStart => exact ⟨rfl, Lib.hid ⟨(((((((Below.refl (w.heap.size + 1) (w.alloc (.cells #[.slice none 0 0, .slice none 0 0, .int .i64 0, .int .i64 0, .slice none 0 0, .slice none 0 0, .slice none 0 0, .slice none 0 0, .slice none 0 0, .slice none 0 0, .slice none 0 0] 49))).alloc (by simp) _).alloc (by simp) _).alloc (by simp) _).alloc (by simp) _).alloc (by simp) _).alloc (by simp) _), (blk_cell (heap_alloc_new' _ _ (by simp)) 5)⟩⟩
  case round =>
    obtain ⟨rfl, HQ⟩ := hrel
    have c8 := (HQ.out.cell 8).trans C8.out
    clear hmm
    go_wp2_with fail
    go_loopw [38] (fun iv wr2 => iv = .int .i64 0 ∧ wr2 = wr) (fun _ _ => 0)
    case atStart => exact ⟨rfl, rfl⟩
    case round =>
      obtain ⟨rfl, rfl⟩ := hrel
      have c6 := (HQ.out.cell 6).trans C6.out
      go_wp2_with fail
      go_loopw [52] (fun iv wr3 => iv = .int .i64 0 ∧ wr3 = wr) (fun _ _ => 0)
      case atStart => exact ⟨rfl, rfl⟩
      case round =>
        obtain ⟨rfl, rfl⟩ := hrel
        go_wp2_with fail
        go_ret
        exact ⟨_, rfl, ((Below.refl _ _).alloc (Nat.le_refl _) _).trans (HQ.out.1.mono (Nat.le_succ _)), HQ.out.2⟩

set_option maxRecDepth 100000 in
set_option maxHeartbeats 1000000 in
theorem in107 (x a b : Int) (w : World) : Calls Tryz.prog 107 #[.int .i64 x, .int .i64 a, .int .i64 b] w fun e w' => e = .returned (.bool (decide (a ≤ x) && decide (x ≤ b))) ∧ w = w' := by
  by_cases h1 : a ≤ x
  · by_cases h2 : x ≤ b
    · have d1 : decide (a ≤ x) = true := by simpa using h1
      have d2 : decide (x ≤ b) = true := by simpa using h2
      go_enter Tryz.func107, Tryz.ntmps107
      go_wp2_with fail
      go_ret
      exact ⟨by first | rfl | (rw [d1, d2]; rfl), rfl⟩
    · have d1 : decide (a ≤ x) = true := by simpa using h1
      have d2 : decide (x ≤ b) = false := by simpa using h2
      go_enter Tryz.func107, Tryz.ntmps107
      go_wp2_with fail
      go_ret
      exact ⟨rfl, rfl⟩
  · have d1 : decide (a ≤ x) = false := by simpa using h1
    go_enter Tryz.func107, Tryz.ntmps107
    go_wp2_with fail
    go_ret
    exact ⟨rfl, rfl⟩

set_option maxRecDepth 100000 in
set_option maxHeartbeats 1000000 in
theorem nil50 (g : Nat) (w : World) : Calls Tryz.prog 50 #[.pointer (some ⟨g, 0, none⟩), .int .i64 3, .agg #[.slice none 0 0, .int .i64 0, .int .i64 0, .slice none 0 0, .slice none 0 0]] w (Ok0 w) := by
  obtain ⟨W, hW⟩ : ∃ W, W = ((w.alloc (.cells #[.pointer (some ⟨g, 0, none⟩)] 120)).alloc (.cells #[.int .i64 3] 3)).alloc (.cells #[.slice none 0 0, .int .i64 0, .int .i64 0, .slice none 0 0, .slice none 0 0] 40) := ⟨_, rfl⟩
  have hb : Below w.heap.size w W := by rw [hW]; exact (((Below.refl _ _).alloc (Nat.le_refl _) _).alloc (by simp) _).alloc (by simp; omega) _
  have h3 : W.heap[w.heap.size + 1 + 1]? = some (.cells #[.slice none 0 0, .int .i64 0, .int .i64 0, .slice none 0 0, .slice none 0 0] 40 (0, 0)) := by rw [hW]; exact heap_alloc_new' _ _ (by simp)
  have h2 : W.heap[w.heap.size + 1]? = some (.cells #[.int .i64 3] 3 (0, 0)) := by rw [hW]; exact (Below.heap_alloc _ _ _ (by simp)).trans (heap_alloc_new' _ _ (by simp))
  have hz : W.heap.size = w.heap.size + 3 := by rw [hW]; simp
  have c1 := blk_cell h2 0
  have c20 := blk_cell h3 0
  have c21 := blk_cell h3 1
  have c22 := blk_cell h3 2
  have c23 := blk_cell h3 3
  have c24 := blk_cell h3 4
  have HB := Lib.hid hb
  have HZ := Lib.hid hz
  have HW := Lib.hid hW
  have H3 := Lib.hid h3
  have hp := @Nat.lt_irrefl
  clear hb hz hW h2 h3 hp
  go_enter Tryz.func50, Tryz.ntmps50
  go_upto_region 1 with fail
  rw [← HW.out]
  go_wp2_with fail
  refine (prop108_none _).mono ?_
  rintro e w1 ⟨rfl, rfl⟩
  go_wp2_with fail
  go_loopw [24] (fun iv wr => iv = .int .i64 0 ∧ wr = W) (fun _ _ => 0)
  case atStart => exact ⟨rfl, rfl⟩
  case round =>
    obtain ⟨rfl, rfl⟩ := hrel
    go_upto_region 12 with fail
    have HV := Lib.hid (heap_alloc_new wr (.cells #[.int .i64 0, .int .i64 0, .slice none 0 0, .slice none 0 0] 38))
    have HBV := Lib.hid (HB.out.alloc HB.out.size (.cells #[.int .i64 0, .int .i64 0, .slice none 0 0, .slice none 0 0] 38))
    obtain ⟨q, hq⟩ : ∃ q, q = wr.heap.size := ⟨_, rfl⟩
    obtain ⟨V, hV⟩ : ∃ V, V = wr.alloc (.cells #[.int .i64 0, .int .i64 0, .slice none 0 0, .slice none 0 0] 38) := ⟨_, rfl⟩
    rw [← hV]
    rw [← hq]
    rw [← hV, ← hq] at HV
    rw [← hV] at HBV
    have v0 := blk_cell HV.out 0
    have v1 := blk_cell HV.out 1
    have v2 := blk_cell HV.out 2
    have v3 := blk_cell HV.out 3
    clear c1 c20 c21 c22 c23 c24 HW H3 HB HZ hV hq
    go_quiet (fail)
    go_wp2_with fail
    refine (in107 _ _ _ _).mono ?_
    rintro e w1 ⟨rfl, rfl⟩
    go_wp2_with fail
    go_loopw [77] (fun iv wr => iv = .int .i64 0 ∧ wr = V.drewN nq) (fun _ _ => 0)
    case atStart => exact ⟨rfl, rfl⟩
    case round =>
      obtain ⟨rfl, rfl⟩ := hrel
      go_wp2_with fail
      refine (all102_none _ _).mono ?_
      rintro e w1 ⟨rfl, rfl⟩
      go_wp2_with fail
      go_ret
      exact ⟨rfl, below_drewN HBV.out _⟩

set_option maxRecDepth 100000 in
set_option maxHeartbeats 1000000 in
theorem nil52 (g : Nat) (w : World) : Calls Tryz.prog 52 #[.pointer (some ⟨g, 0, none⟩), .slice none 0 0, .agg #[.bool true, .bool false, .int .i64 0]] w (Ok0 w) := by
  go_enter Tryz.func52, Tryz.ntmps52
  go_wp2_with fail
  refine (all102_none _ _).mono ?_
  rintro e w1 ⟨rfl, rfl⟩
  go_wp2_with fail
  go_ret
  exact ⟨rfl, (((Below.refl _ _).alloc (Nat.le_refl _) _).alloc (by simp) _).alloc (by simp; omega) _⟩

set_option maxRecDepth 100000 in
set_option maxHeartbeats 1000000 in
theorem nil20 (w : World) : Calls Tryz.prog 20 #[.agg #[.slice none 0 0, .slice none 0 0, .int .i64 0, .int .i64 0, .slice none 0 0, .slice none 0 0, .slice none 0 0, .slice none 0 0, .slice none 0 0, .slice none 0 0, .slice none 0 0]] w (Ok0 w) := by
  have hb : (w.alloc (.cells #[.slice none 0 0, .slice none 0 0, .int .i64 0, .int .i64 0, .slice none 0 0, .slice none 0 0, .slice none 0 0, .slice none 0 0, .slice none 0 0, .slice none 0 0, .slice none 0 0] 49)).heap[w.heap.size]? = some (.cells #[.slice none 0 0, .slice none 0 0, .int .i64 0, .int .i64 0, .slice none 0 0, .slice none 0 0, .slice none 0 0, .slice none 0 0, .slice none 0 0, .slice none 0 0, .slice none 0 0] 49 (0, 0)) := heap_alloc_new w _
  have hB : Below w.heap.size w (w.alloc (.cells #[.slice none 0 0, .slice none 0 0, .int .i64 0, .int .i64 0, .slice none 0 0, .slice none 0 0, .slice none 0 0, .slice none 0 0, .slice none 0 0, .slice none 0 0, .slice none 0 0] 49)).drew := ((Below.refl _ _).alloc (Nat.le_refl _) _).drew
  go_enter Tryz.func20, Tryz.ntmps20
  go_upto_region 1 with fail
  refine wp_region_seq (S := fun w' => w'.heap[w.heap.size]? = some (.cells #[.slice none 0 0, .slice none 0 0, .int .i64 0, .int .i64 0, .slice none 0 0, .slice none 0 0, .slice none 0 0, .slice none 0 0, .slice none 0 0, .slice none 0 0, .slice none 0 0] 49 (0, 0))) [(true, 0), (true, 1), (true, 3), (true, 4), (false, 2), (false, 5), (false, 6), (false, 7), (true, 8)] (by kernel_rfl) (by kernel_rfl) hb ?_
  simp only [pickL, List.getElem?_cons_succ, List.getElem?_cons_zero]
  refine sq_load (.pointer (some ⟨w.heap.size, 7, none⟩)) (fun w' hS => by go_simp) ?_
  simp only [Act.put, List.setIfInBounds_toArray, List.set_cons_zero, List.set_cons_succ]
  refine sq_load (.agg #[.slice none 0 0, .slice none 0 0, .slice none 0 0, .slice none 0 0]) (fun w' hS => by have hq7 := blk_cell hS 7; have hq8 := blk_cell hS 8; have hq9 := blk_cell hS 9; have hq10 := blk_cell hS 10; go_simp) ?_
  simp only [Act.put, List.setIfInBounds_toArray, List.set_cons_zero, List.set_cons_succ]
  refine sq_load (.pointer (some ⟨w.heap.size, 6, none⟩)) (fun w' hS => by go_simp) ?_
  simp only [Act.put, List.setIfInBounds_toArray, List.set_cons_zero, List.set_cons_succ]
  refine sq_load (.slice none 0 0) (fun w' hS => by have hq := blk_cell hS 6; go_simp) ?_
  simp only [Act.put, List.setIfInBounds_toArray, List.set_cons_zero, List.set_cons_succ]
  refine sq_call 47 #[.agg #[.slice none 0 0, .slice none 0 0, .slice none 0 0, .slice none 0 0]] (by go_simp) ?_
  refine Calls.mono (nil47 _) ?_
  rintro e w1 ⟨rfl, hb1⟩
  replace hb := (hb1.block _ (lt_of_blk hb)).trans hb
  replace hB := hB.trans (hb1.mono hB.size)
  clear hb1
  refine ⟨_, rfl, hb, ?_⟩
  simp only [Act.put, List.setIfInBounds_toArray, List.set_cons_zero, List.set_cons_succ]
  refine sq_call 48 #[.slice none 0 0] (by go_simp) ?_
  refine Calls.mono (nil48 _) ?_
  rintro e w1 ⟨rfl, hb1⟩
  replace hb := (hb1.block _ (lt_of_blk hb)).trans hb
  replace hB := hB.trans (hb1.mono hB.size)
  clear hb1
  refine ⟨_, rfl, hb, ?_⟩
  simp only [Act.put, List.setIfInBounds_toArray, List.set_cons_zero, List.set_cons_succ]
  refine sq_value (.slice (some ⟨w1.heap.size, 0, none⟩) 2 2) (w1.alloc (.cells #[.int .i64 0, .int .i64 0] 23)) (by go_simp) ?_ ?_
  · exact (Below.heap_alloc _ _ _ (lt_of_blk hb)).trans hb
  simp only [Act.put, List.setIfInBounds_toArray, List.set_cons_zero, List.set_cons_succ]
  refine sq_call 46 #[.slice (some ⟨w1.heap.size, 0, none⟩) 2 2] (by go_simp) ?_
  refine Calls.mono (first46 [0, 0] w1.heap.size 2 _ (fun j x hj => (blk_cell (heap_alloc_new w1 _) j).trans (by match j with | 0 => simp at hj; subst hj; rfl | 1 => simp at hj; subst hj; rfl | j + 2 => simp at hj)) (by simp)) ?_
  rintro e w2 ⟨rfl, rfl⟩
  replace hb := (Below.heap_alloc w1 (.cells #[.int .i64 0, .int .i64 0] 23) _ (lt_of_blk hb)).trans hb
  replace hB := hB.alloc hB.size (.cells #[.int .i64 0, .int .i64 0] 23)
  refine ⟨_, rfl, hb, ?_⟩
  simp only [Act.put, List.setIfInBounds_toArray, List.set_cons_zero, List.set_cons_succ]
  refine sq_load (.int .i64 (firstE [0, 0])) (fun w' hS => by go_simp) ?_
  simp only [Act.put, List.setIfInBounds_toArray, List.set_cons_zero, List.set_cons_succ]
  refine sq_done ?_
  obtain ⟨W, hW⟩ : ∃ W, W = w1.alloc (.cells #[.int .i64 0, .int .i64 0] 23) := ⟨_, rfl⟩
  rw [← hW] at hb hB ⊢
  have HW := Lib.hid hW
  clear hW
  have c0 := blk_cell hb 0
  have c1 := blk_cell hb 1
  have c2 := blk_cell hb 2
  have c3 := blk_cell hb 3
  have c4 := blk_cell hb 4
  have c5 := blk_cell hb 5
  have c6 := blk_cell hb 6
  have c7 := blk_cell hb 7
  have c8 := blk_cell hb 8
  have c9 := blk_cell hb 9
  have c10 := blk_cell hb 10
  have h0 : firstE [0, 0] = 0 := rfl
  have HB := Lib.hid hB
  have Hb := Lib.hid hb
  clear hb hB
  go_wp2_with fail
  refine (nil49 _).mono ?_
  rintro e w2 ⟨g, rfl, hb2, hc2⟩
  have HB2 := Lib.hid (HB.out.trans (hb2.mono HB.out.size))
  have Hb2 := Lib.hid ((hb2.block _ (lt_of_blk Hb.out)).trans Hb.out)
  clear HB Hb hb2 c0 c1 c2 c3 c4 c5 c6 c7 c8 c9 c10
  have c1 := blk_cell Hb2.out 1
  have c2 := blk_cell Hb2.out 2
  have c3 := blk_cell Hb2.out 3
  have c4 := blk_cell Hb2.out 4
  have c5 := blk_cell Hb2.out 5
  have HC2 := Lib.hid hc2
  clear hc2
  go_upto_region 6 with fail
  obtain ⟨q, hq⟩ : ∃ q, q = w2.heap.size := ⟨_, rfl⟩
  obtain ⟨V, hV⟩ : ∃ V, V = w2.alloc (.cells #[.int .i64 0, .int .i64 0, .slice none 0 0, .slice none 0 0] 38) := ⟨_, rfl⟩
  have hb : V.heap[w.heap.size]? = some (.cells #[.slice none 0 0, .slice none 0 0, .int .i64 0, .int .i64 0, .slice none 0 0, .slice none 0 0, .slice none 0 0, .slice none 0 0, .slice none 0 0, .slice none 0 0, .slice none 0 0] 49 (0, 0)) := by rw [hV]; exact (Below.heap_alloc _ _ _ (lt_of_blk Hb2.out)).trans Hb2.out
  have hm : V.heap[q]? = some (.cells #[.int .i64 0, .int .i64 0, .slice none 0 0, .slice none 0 0] 38 (0, 0)) := by rw [hV, hq]; exact heap_alloc_new w2 _
  have hB : Below w.heap.size w V := by rw [hV]; exact HB2.out.alloc HB2.out.size _
  have hg : V.cell? ⟨g, 5, none⟩ = some (.int .i64 0) := by rw [hV]; exact (World.cell?_of_block (Below.heap_alloc _ _ _ (World.block_lt_of_cell? _ _ HC2.out))).trans HC2.out
  rw [← hV, ← hq]
  clear hV hq HC2 Hb2 HB2 HW c1 c2 c3 c4 c5
  refine wp_region_guard (S := fun w' => w'.heap[w.heap.size]? = some (.cells #[.slice none 0 0, .slice none 0 0, .int .i64 0, .int .i64 0, .slice none 0 0, .slice none 0 0, .slice none 0 0, .slice none 0 0, .slice none 0 0, .slice none 0 0, .slice none 0 0] 49 (0, 0)) ∧ w'.heap[q]? = some (.cells #[.int .i64 0, .int .i64 0, .slice none 0 0, .slice none 0 0] 38 (0, 0))) [(true, 0), (true, 1), (true, 2), (true, 4), (true, 5), (true, 6), (false, 3), (true, 7), (true, 8), (true, 9), (true, 10), (true, 11), (true, 12), (true, 13), (true, 14), (true, 15), (true, 16), (true, 17), (false, 18), (false, 19), (false, 20), (true, 21)] (by kernel_rfl) (by kernel_rfl) ⟨hb, hm⟩ ?_
  simp only [pickL, List.getElem?_cons_succ, List.getElem?_cons_zero]
  refine hd_load (.pointer (some ⟨g, 0, none⟩)) rfl (fun w' hS => by go_simp) ?_
  simp only [Act.put, List.setIfInBounds_toArray, List.set_cons_zero, List.set_cons_succ]
  refine hd_load (.pointer (some ⟨w.heap.size, 1, none⟩)) rfl (fun w' hS => by go_simp) ?_
  simp only [Act.put, List.setIfInBounds_toArray, List.set_cons_zero, List.set_cons_succ]
  refine hd_load (.agg #[.slice none 0 0, .int .i64 0, .int .i64 0, .slice none 0 0, .slice none 0 0]) rfl (fun w' hS => by have hq1 := blk_cell hS.1 1; have hq2 := blk_cell hS.1 2; have hq3 := blk_cell hS.1 3; have hq4 := blk_cell hS.1 4; have hq5 := blk_cell hS.1 5; go_simp) ?_
  simp only [Act.put, List.setIfInBounds_toArray, List.set_cons_zero, List.set_cons_succ]
  refine hd_load (.pointer (some ⟨q, 0, none⟩)) rfl (fun w' hS => by go_simp) ?_
  simp only [Act.put, List.setIfInBounds_toArray, List.set_cons_zero, List.set_cons_succ]
  refine hd_load (.int .i64 0) rfl (fun w' hS => by have hq := blk_cell hS.2 0; go_simp) ?_
  simp only [Act.put, List.setIfInBounds_toArray, List.set_cons_zero, List.set_cons_succ]
  refine hd_load (.bool false) rfl (fun w' hS => by go_simp) ?_
  simp only [Act.put, List.setIfInBounds_toArray, List.set_cons_zero, List.set_cons_succ]
  refine hd_run rfl ?_
  refine sq_call 50 #[.pointer (some ⟨g, 0, none⟩), .int .i64 3, .agg #[.slice none 0 0, .int .i64 0, .int .i64 0, .slice none 0 0, .slice none 0 0]] (by go_simp) ?_
  refine Calls.mono (nil50 g _) ?_
  rintro e w3 ⟨rfl, hb1⟩
  replace hb := (hb1.block _ (lt_of_blk hb)).trans hb
  replace hm := (hb1.block _ (lt_of_blk hm)).trans hm
  replace hg := cell_over (w := V.drew) hg hb1
  replace hB := hB.drew.trans (hb1.mono hB.size)
  clear hb1
  refine ⟨_, rfl, ⟨hb, hm⟩, ?_⟩
  refine sq_done ?_
  simp only [Act.put, List.setIfInBounds_toArray, List.set_cons_zero, List.set_cons_succ]
  refine hd_load (.bool false) rfl (fun w' hS => by go_simp) ?_
  simp only [Act.put, List.setIfInBounds_toArray, List.set_cons_zero, List.set_cons_succ]
  refine hd_load (.pointer (some ⟨q, 1, none⟩)) rfl (fun w' hS => by go_simp) ?_
  simp only [Act.put, List.setIfInBounds_toArray, List.set_cons_zero, List.set_cons_succ]
  refine hd_load (.int .i64 0) rfl (fun w' hS => by have hq := blk_cell hS.2 1; go_simp) ?_
  simp only [Act.put, List.setIfInBounds_toArray, List.set_cons_zero, List.set_cons_succ]
  refine hd_load (.bool false) rfl (fun w' hS => by go_simp) ?_
  simp only [Act.put, List.setIfInBounds_toArray, List.set_cons_zero, List.set_cons_succ]
  refine hd_load (.bool false) rfl (fun w' hS => by go_simp) ?_
  simp only [Act.put, List.setIfInBounds_toArray, List.set_cons_zero, List.set_cons_succ]
  refine hd_load (.bool false) rfl (fun w' hS => by go_simp) ?_
  simp only [Act.put, List.setIfInBounds_toArray, List.set_cons_zero, List.set_cons_succ]
  refine hd_load (.pointer (some ⟨q, 2, none⟩)) rfl (fun w' hS => by go_simp) ?_
  simp only [Act.put, List.setIfInBounds_toArray, List.set_cons_zero, List.set_cons_succ]
  refine hd_load (.slice none 0 0) rfl (fun w' hS => by have hq := blk_cell hS.2 2; go_simp) ?_
  simp only [Act.put, List.setIfInBounds_toArray, List.set_cons_zero, List.set_cons_succ]
  refine hd_load (.int .i64 0) rfl (fun w' hS => by go_simp) ?_
  simp only [Act.put, List.setIfInBounds_toArray, List.set_cons_zero, List.set_cons_succ]
  refine hd_load (.bool false) rfl (fun w' hS => by go_simp) ?_
  simp only [Act.put, List.setIfInBounds_toArray, List.set_cons_zero, List.set_cons_succ]
  refine hd_load (.bool false) rfl (fun w' hS => by go_simp) ?_
  simp only [Act.put, List.setIfInBounds_toArray, List.set_cons_zero, List.set_cons_succ]
  refine hd_run rfl ?_
  refine sq_call 51 #[.bool false, .int .i64 21] (by go_simp) ?_
  refine Calls.mono (when51 false 21 _) ?_
  rintro e w4 ⟨rfl, rfl⟩
  refine ⟨_, rfl, ⟨hb, hm⟩, ?_⟩
  refine sq_done ?_
  simp only [Act.put, List.setIfInBounds_toArray, List.set_cons_zero, List.set_cons_succ]
  refine hd_run rfl ?_
  refine sq_value (.slice (some ⟨w3.heap.size, 0, none⟩) 2 2) (w3.alloc (.cells #[.int .i64 0, .int .i64 0] 23)) (by go_simp) ?_ ?_
  · exact ⟨(Below.heap_alloc _ _ _ (lt_of_blk hb)).trans hb, (Below.heap_alloc _ _ _ (lt_of_blk hm)).trans hm⟩
  refine sq_done ?_
  simp only [Act.put, List.setIfInBounds_toArray, List.set_cons_zero, List.set_cons_succ]
  refine hd_run rfl ?_
  refine sq_call 46 #[.slice (some ⟨w3.heap.size, 0, none⟩) 2 2] (by go_simp) ?_
  refine Calls.mono (first46 [0, 0] w3.heap.size 2 _ (fun j x hj => (blk_cell (heap_alloc_new w3 _) j).trans (by match j with | 0 => simp at hj; subst hj; rfl | 1 => simp at hj; subst hj; rfl | j + 2 => simp at hj)) (by simp)) ?_
  rintro e w5 ⟨rfl, rfl⟩
  replace hb := (Below.heap_alloc w3 (.cells #[.int .i64 0, .int .i64 0] 23) _ (lt_of_blk hb)).trans hb
  replace hm := (Below.heap_alloc w3 (.cells #[.int .i64 0, .int .i64 0] 23) _ (lt_of_blk hm)).trans hm
  replace hB := hB.alloc hB.size (.cells #[.int .i64 0, .int .i64 0] 23)
  refine ⟨_, rfl, ⟨hb, hm⟩, ?_⟩
  refine sq_done ?_
  simp only [Act.put, List.setIfInBounds_toArray, List.set_cons_zero, List.set_cons_succ]
  refine hd_load (.int .i64 (firstE [0, 0])) rfl (fun w' hS => by go_simp) ?_
  simp only [Act.put, List.setIfInBounds_toArray, List.set_cons_zero, List.set_cons_succ]
  refine hd_done ?_
  replace hg := cell_over hg (((Below.refl w3.heap.size w3).alloc (Nat.le_refl _) (.cells #[.int .i64 0, .int .i64 0] 23)))
  obtain ⟨U, hU⟩ : ∃ U, U = w3.alloc (.cells #[.int .i64 0, .int .i64 0] 23) := ⟨_, rfl⟩
  rw [← hU] at hb hm hB hg ⊢
  have c0 := blk_cell hb 0
  have HB := Lib.hid hB
  have HG := Lib.hid hg
  clear hb hm hB hg hU
  go_wp2_with fail
  refine (nil52 g _).mono ?_
  rintro e w6 ⟨rfl, hb6⟩
  have hg := cell_over HG.out hb6
  have HB6 := Lib.hid (HB.out.trans (hb6.mono HB.out.size))
  clear c0 HB HG hb6
  go_wp2_with fail
  refine (when51 false 9 _).mono ?_
  rintro e w7 ⟨rfl, rfl⟩
  go_wp2_with fail
  go_ret
  exact ⟨rfl, HB6.out⟩
end Go.Proofs.YtmhhcfceikcfbaaGreat
