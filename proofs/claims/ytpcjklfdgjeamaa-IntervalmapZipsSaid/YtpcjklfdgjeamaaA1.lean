/- Walks: At, Next, Find, and the reference's. -/
import Derived.Test.YtpcjklfdgjeamaaR3
import Derived.Test.YtpcjklfdgjeamaaPl3
namespace Go.Proofs.Ytpcjklfdgjeamaa
open Go.RowKit

set_option maxHeartbeats 400000 in
theorem nextF_any (r0 r1 r2 o : Int) (pb : Nat) (w : World) (h : w.cell? ⟨pb, 0, none⟩ = some (.int .i64 o)) :
    Calls Try.prog 48 #[.agg #[.int .i64 r0, .int .i64 r1, .int .i64 r2], .pointer (some ⟨pb, 0, none⟩)] w fun e w' => e = .returned (.bool (decide (o ≤ r0))) ∧ Below w.heap.size w w' := by
  have hl := World.block_lt_of_cell? _ _ h
  go_enter Try.func48, Try.ntmps48
  go_wp2
  go_ret
  exact ⟨rfl, (Below.refl _ _).alloc (Nat.le_refl _) _⟩
set_option maxHeartbeats 400000 in
theorem findF_any (r0 r1 r2 o v : Int) (pb pv : Nat) (w : World) (h : w.cell? ⟨pb, 0, none⟩ = some (.int .i64 o)) (h' : w.cell? ⟨pv, 0, none⟩ = some (.int .i64 v)) :
    Calls Try.prog 49 #[.agg #[.int .i64 r0, .int .i64 r1, .int .i64 r2], .pointer (some ⟨pb, 0, none⟩), .pointer (some ⟨pv, 0, none⟩)] w fun e w' => e = .returned (.bool (decide (o < r1) && (r2 == v))) ∧ Below w.heap.size w w' := by
  have hl := World.block_lt_of_cell? _ _ h
  have hl' := World.block_lt_of_cell? _ _ h'
  by_cases h1 : o < r1
  · have HE : Hid ((decide (o < r1) && (r2 == v)) = (r2 == v)) := Lib.hid (by simp [h1])
    go_enter Try.func49, Try.ntmps49
    go_wp2
    go_ret
    exact ⟨rfl, (Below.refl _ _).alloc (Nat.le_refl _) _⟩
  · have HE : Hid ((decide (o < r1) && (r2 == v)) = false) := Lib.hid (by simp [h1])
    go_enter Try.func49, Try.ntmps49
    go_wp2
    go_ret
    exact ⟨ret_bool HE.out.symm, (Below.refl _ _).alloc (Nat.le_refl _) _⟩

theorem idxF_drop (p : Rn → Bool) (R : List Rn) (k : Nat) (h : k < R.length) (i : Int) : idxF p (R.drop k) i = if p R[k] then i else idxF p (R.drop (k + 1)) (i + 1) := by
  rw [List.drop_eq_getElem_cons h]; rfl

set_option maxHeartbeats 1000000 in
theorem idxNext_any (va : Value) (R : List Rn) (o : Int) (pb : Nat) (w : World) (ha : RunsV w w.heap.size va R) (h0 : w.cell? ⟨pb, 0, none⟩ = some (.int .i64 o)) (hl : R.length ≤ 2097152) :
    Calls Try.prog 47 #[va, .func (.func 48) #[] #[.pointer (some ⟨pb, 0, none⟩)]] w fun e w' => e = .returned (.int .i64 (idxF (fun r => decide (o ≤ r.1)) R 0)) ∧ Below w.heap.size w w' := by
  obtain ⟨A, c, rfl, hc1, hc2, hRA⟩ := ha.run
  obtain ⟨pp, hpp⟩ : ∃ pp : Rn → Bool, pp = fun r => decide (o ≤ r.1) := ⟨_, rfl⟩
  rw [← hpp]
  have HP : Hid (∀ r0 r1 r2, pp (r0, r1, r2) = (decide (o ≤ r0))) := Lib.hid fun _ _ _ => by rw [hpp]
  have HA := Lib.hid hRA
  obtain ⟨n, hn⟩ : ∃ n, n = R.length := ⟨_, rfl⟩
  rw [← hn] at hc1 hl ⊢
  have HN := Lib.hid hn
  clear hpp ha hRA hn
  go_enter Try.func47, Try.ntmps47
  go_wp2
  go_loopw [5, 8] (fun _ iv wr => ∃ k : Nat, k ≤ n ∧ iv = .int .i64 k ∧ Hid (idxF pp (R.drop k) k = idxF pp R 0) ∧ Below w.heap.size w wr ∧ wr.cell? ⟨pb, 0, none⟩ = some (.int .i64 o)) (fun _ iv _ => n - (intOf iv).toNat)
  case atStart => exact ⟨0, Nat.zero_le _, rfl, Lib.hid rfl, Below.refl _ _, h0⟩
  case round =>
    clear h0
    obtain ⟨k, hk, rfl, HJ, hbr, e0⟩ := hrel
    have hbz := hbr.size
    by_cases hlt : k < n
    · obtain ⟨b, oo, rfl, hbB, g1, g2, g3⟩ := (HA.out.below hbr) k (by rw [← HN.out]; exact hlt)
      have HS := Lib.hid (idxF_drop pp R k (by rw [← HN.out]; exact hlt) k)
      obtain ⟨x, hx⟩ : ∃ x, x = R[k]'(by rw [← HN.out]; exact hlt) := ⟨_, rfl⟩
      rw [← hx] at g1 g2 g3 HS
      clear hx
      obtain ⟨x0, x1, x2⟩ := x
      rw [HP.out] at HS
      by_cases ht : (decide (o ≤ x0)) = true
      · have HR : Hid (idxF pp R 0 = k) := Lib.hid (by rw [← HJ.out, HS.out, if_pos ht])
        go_wp2_with fail
        refine (nextF_any x0 x1 x2 o pb wr e0).mono ?_
        rw [ht]
        rintro e w1 ⟨rfl, b1⟩
        go_wp2
        go_ret
        exact ⟨ret_int HR.out.symm, hbr.trans (b1.mono hbz)⟩
      · have HR : Hid (idxF pp (R.drop (k + 1)) ((k + 1 : Nat) : Int) = idxF pp R 0) := Lib.hid (by rw [← HJ.out, HS.out, if_neg ht]; congr 1)
        rw [Bool.not_eq_true] at ht
        go_wp2_with fail
        refine (nextF_any x0 x1 x2 o pb wr e0).mono ?_
        rw [ht]
        rintro e w1 ⟨rfl, b1⟩
        have hb1 := hbr.trans (b1.mono hbz)
        have q0 := cell_over e0 b1
        clear g1 g2 g3 e0 b1 ht
        go_wp2
        go_roundw
        case rel => exact ⟨k + 1, by omega, by go_num, HR, hb1, q0⟩
        case measure => simp [intOf]; omega
    · have HE : Hid (idxF pp R 0 = -1) := Lib.hid (by rw [← HJ.out, List.drop_of_length_le (by have := HN.out; omega)]; rfl)
      go_wp2
      go_ret
      exact ⟨ret_int HE.out.symm, hbr⟩

set_option maxHeartbeats 1000000 in
theorem idxFind_any (va : Value) (R : List Rn) (o v : Int) (pb pv : Nat) (w : World) (ha : RunsV w w.heap.size va R) (h0 : w.cell? ⟨pb, 0, none⟩ = some (.int .i64 o)) (h1 : w.cell? ⟨pv, 0, none⟩ = some (.int .i64 v)) (hl : R.length ≤ 2097152) :
    Calls Try.prog 47 #[va, .func (.func 49) #[] #[.pointer (some ⟨pb, 0, none⟩), .pointer (some ⟨pv, 0, none⟩)]] w fun e w' => e = .returned (.int .i64 (idxF (fun r => decide (o < r.2.1) && (r.2.2 == v)) R 0)) ∧ Below w.heap.size w w' := by
  obtain ⟨A, c, rfl, hc1, hc2, hRA⟩ := ha.run
  obtain ⟨pp, hpp⟩ : ∃ pp : Rn → Bool, pp = fun r => decide (o < r.2.1) && (r.2.2 == v) := ⟨_, rfl⟩
  rw [← hpp]
  have HP : Hid (∀ r0 r1 r2, pp (r0, r1, r2) = (decide (o < r1) && (r2 == v))) := Lib.hid fun _ _ _ => by rw [hpp]
  have HA := Lib.hid hRA
  obtain ⟨n, hn⟩ : ∃ n, n = R.length := ⟨_, rfl⟩
  rw [← hn] at hc1 hl ⊢
  have HN := Lib.hid hn
  clear hpp ha hRA hn
  go_enter Try.func47, Try.ntmps47
  go_wp2
  go_loopw [5, 8] (fun _ iv wr => ∃ k : Nat, k ≤ n ∧ iv = .int .i64 k ∧ Hid (idxF pp (R.drop k) k = idxF pp R 0) ∧ Below w.heap.size w wr ∧ wr.cell? ⟨pb, 0, none⟩ = some (.int .i64 o) ∧ wr.cell? ⟨pv, 0, none⟩ = some (.int .i64 v)) (fun _ iv _ => n - (intOf iv).toNat)
  case atStart => exact ⟨0, Nat.zero_le _, rfl, Lib.hid rfl, Below.refl _ _, h0, h1⟩
  case round =>
    clear h0 h1
    obtain ⟨k, hk, rfl, HJ, hbr, e0, e1⟩ := hrel
    have hbz := hbr.size
    by_cases hlt : k < n
    · obtain ⟨b, oo, rfl, hbB, g1, g2, g3⟩ := (HA.out.below hbr) k (by rw [← HN.out]; exact hlt)
      have HS := Lib.hid (idxF_drop pp R k (by rw [← HN.out]; exact hlt) k)
      obtain ⟨x, hx⟩ : ∃ x, x = R[k]'(by rw [← HN.out]; exact hlt) := ⟨_, rfl⟩
      rw [← hx] at g1 g2 g3 HS
      clear hx
      obtain ⟨x0, x1, x2⟩ := x
      rw [HP.out] at HS
      by_cases ht : (decide (o < x1) && (x2 == v)) = true
      · have HR : Hid (idxF pp R 0 = k) := Lib.hid (by rw [← HJ.out, HS.out, if_pos ht])
        go_wp2_with fail
        refine (findF_any x0 x1 x2 o v pb pv wr e0 e1).mono ?_
        rw [ht]
        rintro e w1 ⟨rfl, b1⟩
        go_wp2
        go_ret
        exact ⟨ret_int HR.out.symm, hbr.trans (b1.mono hbz)⟩
      · have HR : Hid (idxF pp (R.drop (k + 1)) ((k + 1 : Nat) : Int) = idxF pp R 0) := Lib.hid (by rw [← HJ.out, HS.out, if_neg ht]; congr 1)
        rw [Bool.not_eq_true] at ht
        go_wp2_with fail
        refine (findF_any x0 x1 x2 o v pb pv wr e0 e1).mono ?_
        rw [ht]
        rintro e w1 ⟨rfl, b1⟩
        have hb1 := hbr.trans (b1.mono hbz)
        have q0 := cell_over e0 b1
        have q1 := cell_over e1 b1
        clear g1 g2 g3 e0 e1 b1 ht
        go_wp2
        go_roundw
        case rel => exact ⟨k + 1, by omega, by go_num, HR, hb1, q0, q1⟩
        case measure => simp [intOf]; omega
    · have HE : Hid (idxF pp R 0 = -1) := Lib.hid (by rw [← HJ.out, List.drop_of_length_le (by have := HN.out; omega)]; rfl)
      go_wp2
      go_ret
      exact ⟨ret_int HE.out.symm, hbr⟩

/-- What Next and Find return. -/
def maxR (x : Int) : Value := .tuple #[.int .i64 (max x 0), .bool (decide (0 ≤ x))]

set_option maxHeartbeats 1000000 in
theorem nextM_any (m : Nat) (l : List Int) (o : Int) (w : World) (h : MapIs w m l) (hl : l.length ≤ 100000) :
    Calls Try.prog 28 #[.pointer (some ⟨m, 0, none⟩), .int .i64 o] w fun e w' => e = .returned (maxR (nxt none l 0 o)) ∧ Below w.heap.size w w' := by
  have hrl := runs_length l
  have bW : Below w.heap.size w (w.alloc (.cells #[.int .i64 o] 3)) := (Below.refl _ _).alloc (Nat.le_refl _) _
  have c1 : (w.alloc (.cells #[.int .i64 o] 3)).cell? ⟨w.heap.size, 0, none⟩ = some (.int .i64 o) := cells_new w [.int .i64 o] 3 0 _ rfl
  obtain ⟨vv, hm, hv⟩ := h.below bW
  have h0 : (w.alloc (.cells #[.int .i64 o] 3)).cell? ⟨m, 0, none⟩ = some vv := blk_cell hm 0
  have HI := Lib.hid (idxNext_any vv _ o w.heap.size _ hv c1 (by omega))
  have HV := Lib.hid (next_is l o)
  rw [nextR_find] at HV
  have hcont := (runs_ok l).1
  rcases idx_cases (fun r => decide (o ≤ r.1)) (runsOf l) 0 with ⟨e1, e2⟩ | ⟨j, r, e1, e2, e3⟩
  · have e1' : idxF (fun r => decide (o ≤ r.1)) (runsOf l) 0 = -1 := e1
    rw [e1'] at HI
    rw [e2] at HV
    have HX : Hid (maxR (nxt none l 0 o) = .tuple #[.int .i64 0, .bool false]) := Lib.hid (by rw [← HV.out]; rfl)
    have HB := Lib.hid bW
    obtain ⟨A, c, rfl, _, _, hz⟩ := hv
    clear h hm bW e1 e1' e2 hcont HV hz
    go_enter Try.func28, Try.ntmps28
    go_wp2_with fail
    refine HI.out.mono ?_
    rintro e w1 ⟨rfl, b1⟩
    have b2 := HB.out.trans (b1.mono HB.out.size)
    go_wp2
    go_ret2
    exact ⟨by rw [HX.out]; rfl, b2⟩
  · have e1' : idxF (fun r => decide (o ≤ r.1)) (runsOf l) 0 = (j : Int) := by
      have : idxF (fun r => decide (o ≤ r.1)) (runsOf l) ((0 : Nat) : Int) = ((0 + j : Nat) : Int) := e1
      rw [Nat.zero_add] at this
      exact this
    rw [e1'] at HI
    rw [e3] at HV
    have hj : j < (runsOf l).length := (List.getElem?_eq_some_iff.1 e2).1
    have hjr : (runsOf l)[j] = r := (List.getElem?_eq_some_iff.1 e2).2
    have hr0 := (cont_bounds _ 0 hcont r (by rw [← hjr]; simp)).1
    obtain ⟨r0, r1, r2⟩ := r
    simp only at hr0 HV
    have HX : Hid (maxR (nxt none l 0 o) = .tuple #[.int .i64 r0, .bool true]) := Lib.hid (by
      rw [← HV.out]; unfold maxR
      rw [Int.max_eq_left hr0, decide_eq_true hr0])
    have HB := Lib.hid bW
    have HM : Hid (∀ w1, Below (w.alloc (.cells #[.int .i64 o] 3)).heap.size (w.alloc (.cells #[.int .i64 o] 3)) w1 → ∃ b c oo, w1.cell? ⟨m, 0, none⟩ = some (.slice (some ⟨b, oo, none⟩) (runsOf l).length c) ∧ (runsOf l).length ≤ c ∧ c ≤ 9223372036854775807 ∧ w1.cell? ⟨b, oo + j * 3, none⟩ = some (.int .i64 r0)) := Lib.hid fun w1 hb => by
      obtain ⟨A, c, rfl, hc1, hc2, hR⟩ := (hv.over hb).run
      obtain ⟨b, oo, rfl, _, g1, _, _⟩ := hR j hj
      rw [hjr] at g1
      exact ⟨b, c, oo, cell_over h0 hb, hc1, hc2, g1⟩
    obtain ⟨A, c, rfl, _, _, hz⟩ := hv
    have hjI : (j : Int) < ((runsOf l).length : Int) := by omega
    clear h hm bW e1 e1' e2 e3 hcont HV hz hr0 hjr
    go_enter Try.func28, Try.ntmps28
    go_wp2_with fail
    refine HI.out.mono ?_
    rintro e w1 ⟨rfl, b1⟩
    have b2 := HB.out.trans (b1.mono HB.out.size)
    obtain ⟨b, c', oo, k0, kc1, kc2, k1⟩ := HM.out w1 b1
    clear h0 b1
    go_wp2
    go_ret2
    exact ⟨by rw [HX.out]; rfl, b2⟩

set_option maxRecDepth 100000 in
set_option maxHeartbeats 1000000 in
theorem findM_any (m : Nat) (l : List Int) (o v : Int) (w : World) (h : MapIs w m l) (hl : l.length ≤ 100000) :
    Calls Try.prog 29 #[.pointer (some ⟨m, 0, none⟩), .int .i64 o, .int .i64 v] w fun e w' => e = .returned (maxR (fnd l 0 o v)) ∧ Below w.heap.size w w' := by
  have hrl := runs_length l
  obtain ⟨W, hW⟩ : ∃ W : World, W = (w.alloc (.cells #[.int .i64 o] 3)).alloc (.cells #[.int .i64 v] 3) := ⟨_, rfl⟩
  have bW : Below w.heap.size w W := by rw [hW]; exact ((Below.refl _ _).alloc (Nat.le_refl _) _).alloc (by simp) _
  have c1 : W.cell? ⟨w.heap.size, 0, none⟩ = some (.int .i64 o) := by rw [hW]; exact cell_over (cells_new w [.int .i64 o] 3 0 _ rfl) ((Below.refl _ _).alloc (Nat.le_refl _) _)
  have c2 : W.cell? ⟨w.heap.size + 1, 0, none⟩ = some (.int .i64 v) := by rw [hW]; exact cells_at _ [.int .i64 v] 3 (by simp) 0 _ rfl
  obtain ⟨vv, hm, hv⟩ := h.below bW
  have h0 : W.cell? ⟨m, 0, none⟩ = some vv := blk_cell hm 0
  have HI := Lib.hid (idxFind_any vv _ o v w.heap.size (w.heap.size + 1) _ hv c1 c2 (by omega))
  have HV := Lib.hid (find_is l o v)
  rw [findR_find] at HV
  have hcont := (runs_ok l).1
  have HW := Lib.hid hW.symm
  rcases idx_cases (fun r => decide (o < r.2.1) && (r.2.2 == v)) (runsOf l) 0 with ⟨e1, e2⟩ | ⟨j, r, e1, e2, e3⟩
  · have e1' : idxF (fun r => decide (o < r.2.1) && (r.2.2 == v)) (runsOf l) 0 = -1 := e1
    rw [e1'] at HI
    rw [e2] at HV
    have HX : Hid (maxR (fnd l 0 o v) = .tuple #[.int .i64 0, .bool false]) := Lib.hid (by rw [← HV.out]; rfl)
    have HB := Lib.hid bW
    have HH0 := Lib.hid h0
    obtain ⟨A, c, rfl, _, _, hz⟩ := hv
    clear h hm bW e1 e1' e2 hcont HV hz hW c1 c2
    obtain ⟨q, hq⟩ : ∃ q, q = (runsOf l).length := ⟨_, rfl⟩
    rw [← hq] at h0 HI
    clear hq
    have h0' : ((w.alloc (.cells #[.int .i64 o] 3)).alloc (.cells #[.int .i64 v] 3)).cell? ⟨m, 0, none⟩ = some (.slice A q c) := by rw [HW.out]; exact h0
    go_enter Try.func29, Try.ntmps29
    go_wp2_with fail
    rw [HW.out]
    refine HI.out.mono ?_
    rintro e w1 ⟨rfl, b1⟩
    have b2 := HB.out.trans (b1.mono HB.out.size)
    go_wp2
    go_ret2
    exact ⟨by rw [HX.out]; rfl, b2⟩
  · have e1' : idxF (fun r => decide (o < r.2.1) && (r.2.2 == v)) (runsOf l) 0 = (j : Int) := by
      have : idxF (fun r => decide (o < r.2.1) && (r.2.2 == v)) (runsOf l) ((0 : Nat) : Int) = ((0 + j : Nat) : Int) := e1
      rw [Nat.zero_add] at this
      exact this
    rw [e1'] at HI
    rw [e3] at HV
    have hj : j < (runsOf l).length := (List.getElem?_eq_some_iff.1 e2).1
    have hjr : (runsOf l)[j] = r := (List.getElem?_eq_some_iff.1 e2).2
    have hr0 := (cont_bounds _ 0 hcont r (by rw [← hjr]; simp)).1
    obtain ⟨r0, r1, r2⟩ := r
    simp only at hr0 HV
    have HX : Hid (maxR (fnd l 0 o v) = .tuple #[.int .i64 (max r0 o), .bool true]) := Lib.hid (by
      rw [← HV.out]; unfold maxR
      have : 0 ≤ max r0 o := by omega
      rw [Int.max_eq_left this, decide_eq_true this])
    have HB := Lib.hid bW
    obtain ⟨q, hq⟩ : ∃ q, q = (runsOf l).length := ⟨_, rfl⟩
    have HM : Hid (∀ w1, Below W.heap.size W w1 → ∃ b c oo, w1.cell? ⟨m, 0, none⟩ = some (.slice (some ⟨b, oo, none⟩) q c) ∧ q ≤ c ∧ c ≤ 9223372036854775807 ∧ w1.cell? ⟨b, oo + j * 3, none⟩ = some (.int .i64 r0) ∧ w1.cell? ⟨w.heap.size, 0, none⟩ = some (.int .i64 o)) := Lib.hid fun w1 hb => by
      obtain ⟨A, c, rfl, hc1, hc2, hR⟩ := (hv.over hb).run
      obtain ⟨b, oo, rfl, _, g1, _, _⟩ := hR j hj
      rw [hjr] at g1
      rw [hq]
      exact ⟨b, c, oo, cell_over h0 hb, hc1, hc2, g1, cell_over c1 hb⟩
    obtain ⟨A, c, rfl, _, _, hz⟩ := hv
    rw [← hq] at h0 HI hj
    have hjI : (j : Int) < (q : Int) := by omega
    clear h hm bW e1 e1' e2 e3 hcont HV hz hr0 hjr hW c1 c2 hq
    have h0' : ((w.alloc (.cells #[.int .i64 o] 3)).alloc (.cells #[.int .i64 v] 3)).cell? ⟨m, 0, none⟩ = some (.slice A q c) := by rw [HW.out]; exact h0
    go_enter Try.func29, Try.ntmps29
    go_wp2_with fail
    rw [HW.out]
    refine HI.out.mono ?_
    rintro e w1 ⟨rfl, b1⟩
    have b2 := HB.out.trans (b1.mono HB.out.size)
    obtain ⟨b, c', oo, k0, kc1, kc2, k1, k2⟩ := HM.out w1 b1
    clear h0 h0' b1
    go_wp2
    go_quiet (fail)
    all_goals go_wp2
    all_goals
      go_ret2
      first
        | exact ⟨by rw [HX.out, Int.max_eq_left (by omega)]; rfl, below_drewN b2 _⟩
        | exact ⟨by rw [HX.out, Int.max_eq_right (by omega)]; rfl, below_drewN b2 _⟩

set_option maxHeartbeats 1000000 in
theorem at_none (m : Nat) (l : List Int) (o : Int) (w : World) (h : MapIs w m l) (ho : o < 0 ∨ l.length ≤ o) :
    Calls Try.prog 27 #[.pointer (some ⟨m, 0, none⟩), .int .i64 o] w fun e w' => e = .returned (.tuple #[.int .i64 0, .int .i64 2]) ∧ Below w.heap.size w w' := by
  have HL := Lib.hid (len_b m l w h)
  by_cases h1 : o < 0
  · clear h ho
    go_enter Try.func27, Try.ntmps27
    go_wp2
    go_ret2
    exact ⟨rfl, Below.refl _ _⟩
  · have h2 : (l.length : Int) ≤ o := by omega
    clear h ho
    go_enter Try.func27, Try.ntmps27
    go_wp2_with fail
    refine HL.out.mono ?_
    rintro e w1 ⟨rfl, b1⟩
    go_wp2
    go_ret2
    exact ⟨rfl, b1⟩

set_option maxHeartbeats 1000000 in
theorem at_some (m : Nat) (l : List Int) (o : Nat) (w : World) (h : MapIs w m l) (hl : l.length ≤ 100000) (ho : o < l.length) :
    Calls Try.prog 27 #[.pointer (some ⟨m, 0, none⟩), .int .i64 o] w fun e w' => e = .returned (.tuple #[.int .i64 l[o], .int .i64 0]) ∧ Below w.heap.size w w' := by
  have hrl := runs_length l
  have HL := Lib.hid (len_b m l w h)
  have hcont := (runs_ok l).1
  obtain ⟨r, e1, e2⟩ := at_is l o ho
  obtain ⟨x, hx⟩ : ∃ x, x = l[o] := ⟨_, rfl⟩
  have hxr : r.2.2 = x := by
    rw [List.getElem?_eq_getElem ho] at e2
    injection e2 with e2
    rw [hx, e2]
  rw [← hx]
  have HF := Lib.hid (fun W (hb : Below w.heap.size w W) => find_any m _ o W (h.below hb) hcont (by omega))
  obtain ⟨j, hj⟩ : ∃ j, j = findI (runsOf l) o := ⟨_, rfl⟩
  rw [← hj] at e1 HF
  have hjl : j < (runsOf l).length := (List.getElem?_eq_some_iff.1 e1).1
  have hjr : (runsOf l)[j] = r := (List.getElem?_eq_some_iff.1 e1).2
  obtain ⟨q, hq⟩ : ∃ q, q = (runsOf l).length := ⟨_, rfl⟩
  obtain ⟨vv, hm, hv⟩ := id h
  obtain ⟨A, c, rfl, hc1, hc2, hR⟩ := hv.run
  obtain ⟨b, oo, rfl, _, _, _, g3⟩ := hR j hjl
  rw [hjr, hxr] at g3
  have h0 : w.cell? ⟨m, 0, none⟩ = some (.slice (some ⟨b, oo, none⟩) (runsOf l).length c) := blk_cell hm 0
  rw [← hq] at h0 hc1 hjl
  have hjI : (j : Int) < (q : Int) := by omega
  have hoI : (o : Int) < (l.length : Int) := by omega
  have hoI2 : ¬ (l.length : Int) ≤ (o : Int) := by omega
  clear h hm hv hR e1 e2 hj hjr hq hx hxr hcont
  go_enter Try.func27, Try.ntmps27
  go_wp2_with fail
  refine HL.out.mono ?_
  rintro e w1 ⟨rfl, b1⟩
  have k0 := cell_over h0 b1
  have k3 := cell_over g3 b1
  go_wp2_with fail
  go_region_held3 (fun w' => w'.cell? ⟨m, 0, none⟩ = some (.slice (some ⟨b, oo, none⟩) q c) ∧ w'.cell? ⟨b, oo + j * 3 + 2, none⟩ = some (.int .i64 x))
    (first
      | exact ⟨cell_over k0 b2, cell_over k3 b2⟩
      | exact ⟨cell_over k0 (Below.refl _ _).drew, cell_over k3 (Below.refl _ _).drew⟩
      | exact ⟨k0, k3⟩)
    (first
      | (go_at_call 46; refine (HF.out _ (by exact b1.drew)).mono ?_; rintro e w2 ⟨rfl, b2'⟩; have b2 : Below w1.heap.size w1 w2 := ((Below.refl _ _).drew).trans b2'))
  go_wp2
  go_ret2
  exact ⟨rfl, b1.trans (b2.mono b1.size)⟩

/-- The value ahead of a place. -/
def pv (l : List Int) : Nat → Option Int
  | 0 => none
  | k + 1 => l[k]?
theorem nxt_drop (l : List Int) (k : Nat) (h : k < l.length) (o : Int) : nxt (pv l k) (l.drop k) k o = if o ≤ k ∧ pv l k ≠ some l[k] then (k : Int) else nxt (pv l (k + 1)) (l.drop (k + 1)) ((k + 1 : Nat) : Int) o := by
  rw [List.drop_eq_getElem_cons h]
  have : pv l (k + 1) = some l[k] := List.getElem?_eq_getElem h
  rw [this]
  rfl
theorem nxt_skip (l : List Int) (o : Int) : ∀ (k : Nat), k ≤ l.length → (k : Int) ≤ o ∨ k = 0 → nxt none l 0 o = nxt (pv l k) (l.drop k) k o
  | 0, _, _ => rfl
  | k + 1, hk, ho => by
    rw [nxt_skip l o k (by omega) (by omega), nxt_drop l k (by omega) o, if_neg (by intro h; omega)]
theorem nxt_end (l : List Int) (p : Option Int) (i o : Int) (h : i + l.length ≤ o) : nxt p l i o = -1 := by
  induction l generalizing p i with
  | nil => rfl
  | cons x l ih =>
    show (if o ≤ i ∧ p ≠ some x then i else nxt (some x) l (i + 1) o) = -1
    simp only [List.length_cons] at h
    rw [if_neg (by intro hc; omega), ih _ _ (by omega)]
theorem fnd_drop (l : List Int) (k : Nat) (h : k < l.length) (o v : Int) : fnd (l.drop k) k o v = if o ≤ k ∧ l[k] = v then (k : Int) else fnd (l.drop (k + 1)) ((k + 1 : Nat) : Int) o v := by
  rw [List.drop_eq_getElem_cons h]
  rfl
theorem fnd_skip (l : List Int) (o v : Int) : ∀ (k : Nat), k ≤ l.length → (k : Int) ≤ o ∨ k = 0 → fnd l 0 o v = fnd (l.drop k) k o v
  | 0, _, _ => rfl
  | k + 1, hk, ho => by
    rw [fnd_skip l o v k (by omega) (by omega), fnd_drop l k (by omega) o v, if_neg (by intro h; omega)]
theorem fnd_end (l : List Int) (i o v : Int) (h : i + l.length ≤ o) : fnd l i o v = -1 := by
  induction l generalizing i with
  | nil => rfl
  | cons x l ih =>
    show (if o ≤ i ∧ x = v then i else fnd l (i + 1) o v) = -1
    simp only [List.length_cons] at h
    rw [if_neg (by intro hc; omega), ih _ (by omega)]

set_option maxRecDepth 100000 in
set_option maxHeartbeats 1000000 in
theorem rnext_any (lv : Value) (l : List Int) (o : Int) (w : World) (h : IntsV w w.heap.size lv l) (hl : l.length ≤ 100000) :
    Calls Try.prog 30 #[lv, .int .i64 o] w fun e w' => e = .returned (.int .i64 (nxt none l 0 o)) ∧ ∃ n, w' = w.drewN n := by
  obtain ⟨A, c, rfl, hlc, hc, hR⟩ := h.ints
  have HR := Lib.hid hR
  clear h hR
  obtain ⟨n, hn⟩ : ∃ n, n = l.length := ⟨_, rfl⟩
  rw [← hn] at hlc hl ⊢
  have HN := Lib.hid hn
  by_cases ho : o ≤ 0
  · have HST : Hid (nxt none l 0 o = nxt (pv l 0) (l.drop 0) ((0 : Nat) : Int) o) := Lib.hid rfl
    clear hn
    go_enter Try.func30, Try.ntmps30
    go_wp2
    go_loopw [5] (fun iv wr => ∃ (k nq : Nat), k ≤ n ∧ o ≤ k ∧ iv = .int .i64 k ∧ wr = w.drewN nq ∧ Hid (nxt none l 0 o = nxt (pv l k) (l.drop k) k o)) (fun iv _ => n - (intOf iv).toNat)
    case atStart => exact ⟨0, 0, by omega, by omega, rfl, rfl, HST⟩
    case round =>
      obtain ⟨k, nq0, hk, hok, rfl, rfl, HJ⟩ := hrel
      by_cases hlt : k < n
      · obtain ⟨b, oo, rfl, hbB, g1⟩ := HR.out k (by rw [← HN.out]; exact hlt)
        have HS := Lib.hid (nxt_drop l k (by rw [← HN.out]; exact hlt) o)
        obtain ⟨x, hx⟩ : ∃ x, x = l[k]'(by rw [← HN.out]; exact hlt) := ⟨_, rfl⟩
        rw [← hx] at g1 HS
        have hxx : l[k]? = some x := by rw [hx]; exact List.getElem?_eq_getElem _
        by_cases hk0 : k = 0
        · subst hk0
          have HV : Hid (nxt none l 0 o = 0) := Lib.hid (by rw [HJ.out, HS.out, if_pos ⟨hok, by simp [pv]⟩]; rfl)
          clear hx hxx
          go_wp2
          go_quiet (fail)
          go_wp2
          go_ret
          exact ⟨ret_int HV.out.symm, _, by first | rfl | exact World.drewN_drewN _ _ _⟩
        · obtain ⟨j, hj⟩ : ∃ j, k = j + 1 := ⟨k - 1, by omega⟩
          subst hj
          obtain ⟨b', oo', he, _, g2⟩ := HR.out j (by rw [← HN.out]; omega)
          injection he with he
          injection he with he1 he2
          subst he1 he2
          obtain ⟨y, hy⟩ : ∃ y, y = l[j]'(by rw [← HN.out]; omega) := ⟨_, rfl⟩
          rw [← hy] at g2
          have hpv : pv l (j + 1) = some y := by rw [hy]; exact List.getElem?_eq_getElem _
          rw [hpv] at HS
          have HPV := Lib.hid hpv
          have hw1 : IntKind.i64.wrap (((j + 1 : Nat) : Int) - 1) = (j : Int) := by rw [IntWalk.i64_in _ (by omega)]; omega
          have hw2 : IntKind.i64.wrap ((j : Int) + 1 - 1) = (j : Int) := by rw [IntWalk.i64_in _ (by omega)]; omega
          have hne0 : (((j + 1 : Nat) : Int) == 0) = false := by rw [beq_eq_false_iff_ne]; omega
          have hne1 : ((j : Int) + 1 == 0) = false := by rw [beq_eq_false_iff_ne]; omega
          have hjn : (j : Int) < (n : Int) := by omega
          have hj0 : (0 : Int) ≤ (j : Int) := by omega
          have hjn1 : (j : Int) + 1 < (n : Int) := by omega
          clear hx hy hpv hk0
          by_cases hxy : x = y
          · subst hxy
            have HV : Hid (nxt none l 0 o = nxt (pv l (j + 1 + 1)) (l.drop (j + 1 + 1)) ((j + 1 + 1 : Nat) : Int) o) := Lib.hid (by rw [HJ.out, HPV.out, HS.out, if_neg (by simp)])
            have hq : (x != x) = false := by simp
            clear HS hxx
            go_wp2
            go_quiet (fail)
            go_wp2
            go_roundw
            case rel => exact ⟨j + 1 + 1, _, by omega, by omega, by go_num, by first | rfl | exact World.drewN_drewN _ _ _, HV⟩
            case measure => simp [intOf]; omega
          · have HV : Hid (nxt none l 0 o = ((j + 1 : Nat) : Int)) := Lib.hid (by rw [HJ.out, HPV.out, HS.out, if_pos ⟨hok, by simpa using fun h => hxy h.symm⟩])
            have hq : (x != y) = true := by simpa using hxy
            clear HS hxx hxy
            go_wp2
            go_quiet (fail)
            go_wp2
            go_ret
            exact ⟨ret_int HV.out.symm, _, by first | rfl | exact World.drewN_drewN _ _ _⟩
      · have HV : Hid (nxt none l 0 o = -1) := Lib.hid (by rw [HJ.out, List.drop_of_length_le (by have := HN.out; omega)]; rfl)
        go_wp2
        go_ret
        exact ⟨ret_int HV.out.symm, _, rfl⟩
  · obtain ⟨p, hp⟩ := Int.eq_ofNat_of_zero_le (show 0 ≤ o by omega)
    subst hp
    by_cases hbig : n < p
    · have HE : Hid (nxt none l 0 p = -1) := Lib.hid (nxt_end _ _ _ _ (by omega))
      have hnl : ¬ (p : Int) < (n : Int) := by omega
      clear hn
      go_enter Try.func30, Try.ntmps30
      go_wp2
      go_loopw [5] (fun iv wr => iv = .int .i64 p ∧ wr = w) (fun _ _ => 0)
      case atStart => exact ⟨rfl, rfl⟩
      case round =>
        obtain ⟨rfl, rfl⟩ := hrel
        go_wp2
        go_ret
        exact ⟨ret_int HE.out.symm, 0, rfl⟩
    · have HST : Hid (nxt none l 0 p = nxt (pv l p) (l.drop p) p p) := Lib.hid (nxt_skip l p p (by omega) (.inl (by omega)))
      clear hn
      go_enter Try.func30, Try.ntmps30
      go_wp2
      go_loopw [5] (fun iv wr => ∃ (k nq : Nat), k ≤ n ∧ (p : Int) ≤ k ∧ iv = .int .i64 k ∧ wr = w.drewN nq ∧ Hid (nxt none l 0 (p : Int) = nxt (pv l k) (l.drop k) k (p : Int))) (fun iv _ => n - (intOf iv).toNat)
      case atStart => exact ⟨p, 0, by omega, by omega, rfl, rfl, HST⟩
      case round =>
        obtain ⟨k, nq0, hk, hok, rfl, rfl, HJ⟩ := hrel
        by_cases hlt : k < n
        · obtain ⟨b, oo, rfl, hbB, g1⟩ := HR.out k (by rw [← HN.out]; exact hlt)
          have HS := Lib.hid (nxt_drop l k (by rw [← HN.out]; exact hlt) (p : Int))
          obtain ⟨x, hx⟩ : ∃ x, x = l[k]'(by rw [← HN.out]; exact hlt) := ⟨_, rfl⟩
          rw [← hx] at g1 HS
          have hxx : l[k]? = some x := by rw [hx]; exact List.getElem?_eq_getElem _
          by_cases hk0 : k = 0
          · subst hk0
            have HV : Hid (nxt none l 0 (p : Int) = 0) := Lib.hid (by rw [HJ.out, HS.out, if_pos ⟨hok, by simp [pv]⟩]; rfl)
            clear hx hxx
            go_wp2
            go_quiet (fail)
            go_wp2
            go_ret
            exact ⟨ret_int HV.out.symm, _, by first | rfl | exact World.drewN_drewN _ _ _⟩
          · obtain ⟨j, hj⟩ : ∃ j, k = j + 1 := ⟨k - 1, by omega⟩
            subst hj
            obtain ⟨b', oo', he, _, g2⟩ := HR.out j (by rw [← HN.out]; omega)
            injection he with he
            injection he with he1 he2
            subst he1 he2
            obtain ⟨y, hy⟩ : ∃ y, y = l[j]'(by rw [← HN.out]; omega) := ⟨_, rfl⟩
            rw [← hy] at g2
            have hpv : pv l (j + 1) = some y := by rw [hy]; exact List.getElem?_eq_getElem _
            rw [hpv] at HS
            have HPV := Lib.hid hpv
            have hw1 : IntKind.i64.wrap (((j + 1 : Nat) : Int) - 1) = (j : Int) := by rw [IntWalk.i64_in _ (by omega)]; omega
            have hw2 : IntKind.i64.wrap ((j : Int) + 1 - 1) = (j : Int) := by rw [IntWalk.i64_in _ (by omega)]; omega
            have hne0 : (((j + 1 : Nat) : Int) == 0) = false := by rw [beq_eq_false_iff_ne]; omega
            have hne1 : ((j : Int) + 1 == 0) = false := by rw [beq_eq_false_iff_ne]; omega
            have hjn : (j : Int) < (n : Int) := by omega
            have hj0 : (0 : Int) ≤ (j : Int) := by omega
            have hjn1 : (j : Int) + 1 < (n : Int) := by omega
            clear hx hy hpv hk0
            by_cases hxy : x = y
            · subst hxy
              have HV : Hid (nxt none l 0 (p : Int) = nxt (pv l (j + 1 + 1)) (l.drop (j + 1 + 1)) ((j + 1 + 1 : Nat) : Int) (p : Int)) := Lib.hid (by rw [HJ.out, HPV.out, HS.out, if_neg (by simp)])
              have hq : (x != x) = false := by simp
              clear HS hxx
              go_wp2
              go_quiet (fail)
              go_wp2
              go_roundw
              case rel => exact ⟨j + 1 + 1, _, by omega, by omega, by go_num, by first | rfl | exact World.drewN_drewN _ _ _, HV⟩
              case measure => simp [intOf]; omega
            · have HV : Hid (nxt none l 0 (p : Int) = ((j + 1 : Nat) : Int)) := Lib.hid (by rw [HJ.out, HPV.out, HS.out, if_pos ⟨hok, by simpa using fun h => hxy h.symm⟩])
              have hq : (x != y) = true := by simpa using hxy
              clear HS hxx hxy
              go_wp2
              go_quiet (fail)
              go_wp2
              go_ret
              exact ⟨ret_int HV.out.symm, _, by first | rfl | exact World.drewN_drewN _ _ _⟩
        · have HV : Hid (nxt none l 0 (p : Int) = -1) := Lib.hid (by rw [HJ.out, List.drop_of_length_le (by have := HN.out; omega)]; rfl)
          go_wp2
          go_ret
          exact ⟨ret_int HV.out.symm, _, rfl⟩

set_option maxRecDepth 100000 in
set_option maxHeartbeats 1000000 in
theorem rfind_any (lv : Value) (l : List Int) (o v : Int) (w : World) (h : IntsV w w.heap.size lv l) (hl : l.length ≤ 100000) :
    Calls Try.prog 31 #[lv, .int .i64 o, .int .i64 v] w fun e w' => e = .returned (.int .i64 (fnd l 0 o v)) ∧ w = w' := by
  obtain ⟨A, c, rfl, hlc, hc, hR⟩ := h.ints
  have HR := Lib.hid hR
  clear h hR
  obtain ⟨n, hn⟩ : ∃ n, n = l.length := ⟨_, rfl⟩
  rw [← hn] at hlc hl ⊢
  have HN := Lib.hid hn
  by_cases ho : o ≤ 0
  · have HST : Hid (fnd l 0 o v = fnd (l.drop 0) ((0 : Nat) : Int) o v) := Lib.hid rfl
    clear hn
    go_enter Try.func31, Try.ntmps31
    go_wp2
    go_loop [7] (fun iv => ∃ k : Nat, k ≤ n ∧ o ≤ k ∧ iv = .int .i64 k ∧ Hid (fnd l 0 o v = fnd (l.drop k) k o v)) (fun iv => n - (intOf iv).toNat)
    case atStart => exact ⟨0, by omega, by omega, rfl, HST⟩
    case round =>
      obtain ⟨k, hk, hok, rfl, HJ⟩ := hrel
      by_cases hlt : k < n
      · obtain ⟨b, oo, rfl, hbB, g1⟩ := HR.out k (by rw [← HN.out]; exact hlt)
        have HS := Lib.hid (fnd_drop l k (by rw [← HN.out]; exact hlt) o v)
        obtain ⟨x, hx⟩ : ∃ x, x = l[k]'(by rw [← HN.out]; exact hlt) := ⟨_, rfl⟩
        rw [← hx] at g1 HS
        clear hx
        by_cases hxv : x = v
        · have HV : Hid (fnd l 0 o v = (k : Int)) := Lib.hid (by rw [HJ.out, HS.out, if_pos ⟨hok, hxv⟩])
          have hq : (x == v) = true := by simpa using hxv
          clear HS hxv
          go_wp2
          go_ret
          exact ⟨ret_int HV.out.symm, rfl⟩
        · have HV : Hid (fnd l 0 o v = fnd (l.drop (k + 1)) ((k + 1 : Nat) : Int) o v) := Lib.hid (by rw [HJ.out, HS.out, if_neg (by intro h; exact hxv h.2)])
          have hq : (x == v) = false := by simpa using hxv
          clear HS hxv
          go_wp2
          go_round
          case rel => exact ⟨k + 1, by omega, by omega, by go_num, HV⟩
          case measure => simp [intOf]; omega
      · have HV : Hid (fnd l 0 o v = -1) := Lib.hid (by rw [HJ.out, List.drop_of_length_le (by have := HN.out; omega)]; rfl)
        go_wp2
        go_ret
        exact ⟨ret_int HV.out.symm, rfl⟩
  · obtain ⟨p, hp⟩ := Int.eq_ofNat_of_zero_le (show 0 ≤ o by omega)
    subst hp
    by_cases hbig : n < p
    · have HE : Hid (fnd l 0 p v = -1) := Lib.hid (fnd_end _ _ _ _ (by omega))
      have hnl : ¬ (p : Int) < (n : Int) := by omega
      clear hn
      go_enter Try.func31, Try.ntmps31
      go_wp2
      go_loop [7] (fun iv => iv = .int .i64 p) (fun _ => 0)
      case atStart => exact rfl
      case round =>
        obtain rfl := hrel
        go_wp2
        go_ret
        exact ⟨ret_int HE.out.symm, rfl⟩
    · have HST : Hid (fnd l 0 p v = fnd (l.drop p) p p v) := Lib.hid (fnd_skip l p v p (by omega) (.inl (by omega)))
      clear hn
      go_enter Try.func31, Try.ntmps31
      go_wp2
      go_loop [7] (fun iv => ∃ k : Nat, k ≤ n ∧ (p : Int) ≤ k ∧ iv = .int .i64 k ∧ Hid (fnd l 0 (p : Int) v = fnd (l.drop k) k (p : Int) v)) (fun iv => n - (intOf iv).toNat)
      case atStart => exact ⟨p, by omega, by omega, rfl, HST⟩
      case round =>
        obtain ⟨k, hk, hok, rfl, HJ⟩ := hrel
        by_cases hlt : k < n
        · obtain ⟨b, oo, rfl, hbB, g1⟩ := HR.out k (by rw [← HN.out]; exact hlt)
          have HS := Lib.hid (fnd_drop l k (by rw [← HN.out]; exact hlt) (p : Int) v)
          obtain ⟨x, hx⟩ : ∃ x, x = l[k]'(by rw [← HN.out]; exact hlt) := ⟨_, rfl⟩
          rw [← hx] at g1 HS
          clear hx
          by_cases hxv : x = v
          · have HV : Hid (fnd l 0 (p : Int) v = (k : Int)) := Lib.hid (by rw [HJ.out, HS.out, if_pos ⟨hok, hxv⟩])
            have hq : (x == v) = true := by simpa using hxv
            clear HS hxv
            go_wp2
            go_ret
            exact ⟨ret_int HV.out.symm, rfl⟩
          · have HV : Hid (fnd l 0 (p : Int) v = fnd (l.drop (k + 1)) ((k + 1 : Nat) : Int) (p : Int) v) := Lib.hid (by rw [HJ.out, HS.out, if_neg (by intro h; exact hxv h.2)])
            have hq : (x == v) = false := by simpa using hxv
            clear HS hxv
            go_wp2
            go_round
            case rel => exact ⟨k + 1, by omega, by omega, by go_num, HV⟩
            case measure => simp [intOf]; omega
        · have HV : Hid (fnd l 0 (p : Int) v = -1) := Lib.hid (by rw [HJ.out, List.drop_of_length_le (by have := HN.out; omega)]; rfl)
          go_wp2
          go_ret
          exact ⟨ret_int HV.out.symm, rfl⟩
end Go.Proofs.Ytpcjklfdgjeamaa
