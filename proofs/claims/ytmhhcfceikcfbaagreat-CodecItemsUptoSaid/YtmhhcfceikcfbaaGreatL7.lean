/- Walks: the law's bytes of items to all depths, of pieces, splices, edits. -/
import Derived.Test.YtmhhcfceikcfbaaGreatL5
import Derived.Test.YtmhhcfceikcfbaaGreatL6
import Derived.Test.YtmhhcfceikcfbaaGreatTr
namespace Go.Proofs.YtmhhcfceikcfbaaGreat
open Go.RowKit

set_option maxRecDepth 100000 in
set_option maxHeartbeats 4000000 in
theorem str_none (w : World) (A : Option Addr) (cp : Nat) : Calls Tryz.prog 25 #[.slice A 0 cp] w (StrE w (encN 0)) := by
  have CN := Lib.hid (num_lib 0 (by unfold I64; omega) w)
  go_enter Tryz.func25, Tryz.ntmps25
  go_wp2_with fail
  refine CN.out.mono ?_
  rintro e w1 ⟨rfl, hb1⟩
  have HB1 := Lib.hid hb1
  clear hb1 CN
  go_wp2_with fail
  go_loopw [3, 4] (fun sv iv wr => sv = .string (mkB (encN 0)) ∧ iv = .int .i64 0 ∧ Hid (Below w.heap.size w wr)) (fun _ _ _ => 0)
  case atStart => exact ⟨rfl, rfl, HB1⟩
  case round =>
    obtain ⟨rfl, rfl, HB⟩ := hrel
    clear HB1
    go_wp2_with fail
    go_ret
    exact ⟨rfl, HB.out⟩

theorem str_items : ∀ n, ItemsS (itP n) (itE n)
  | 0 => fun G w v l hv hG hz => by
    have e : l = [] := by
      cases l with
      | nil => rfl
      | cons x _ => exact Empty.elim x
    subst e
    obtain ⟨A, cp, hsl, _, _⟩ := hv.shape
    subst hsl
    have h := str_none w A cp
    have e2 : listE (itE 0) ([] : List (It 0)) = encN 0 := by simp [listE]
    rw [e2]
    exact h
  | n + 1 => fun G w v l hv hG hz => str_items_step (itP n) (itE n) (stb_it n) (str_items n) G w v l hv hG hz

set_option maxRecDepth 100000 in
set_option maxHeartbeats 4000000 in
theorem str_piece (n : Nat) (G : Nat → Prop) (w : World) (vs : List Value) (x : Pc n) (hR : pcP n w G vs x) (hG : ∀ b, G b → b < w.heap.size) (hz : (pcE n x).length ≤ 1099511627776) : Calls Tryz.prog 89 #[.agg vs.toArray] w (StrE w (pcE n x)) := by
  obtain ⟨v0, v1, v2, h0, h1, h2, h3, h4, s0, s1, s2, s3, rfl, t0, t1, t2, t3, t4⟩ := hR
  have hE0 : pcE n x = listE (itE n) x.1 ++ listE (rwE (itE n)) x.2.1 ++ listE (ceE (itE n)) x.2.2.1 ++ hdE x.2.2.2.1 ++ stgE x.2.2.2.2 := by
    simp only [pcE, seqE, List.append_assoc]
  rw [hE0] at hz ⊢
  clear hE0
  obtain ⟨RR, hRR⟩ : ∃ R, R = listE (itE n) x.1 ++ listE (rwE (itE n)) x.2.1 ++ listE (ceE (itE n)) x.2.2.1 ++ hdE x.2.2.2.1 ++ stgE x.2.2.2.2 := ⟨_, rfl⟩
  rw [← hRR]
  obtain ⟨P1, hP1⟩ : ∃ P, P = listE (itE n) x.1 := ⟨_, rfl⟩
  have C1 : Hid (∀ (W : World), Below w.heap.size w W → Calls Tryz.prog 25 #[v0] W (StrE W P1)) := Lib.hid (fun W hW => by rw [hP1]; exact str_items n G W v0 x.1 (t0.below (stb_it n) hG hW) (fun b h => Nat.lt_of_lt_of_le (hG b h) hW.size) (by simp only [List.length_append] at hz; omega))
  obtain ⟨P2, hP2⟩ : ∃ P, P = listE (rwE (itE n)) x.2.1 := ⟨_, rfl⟩
  have C2 : Hid (∀ (W : World), Below w.heap.size w W → Calls Tryz.prog 70 #[v1] W (StrE W P2)) := Lib.hid (fun W hW => by rw [hP2]; exact str_rows (itP n) (itE n) (stb_it n) (str_items n) G W v1 x.2.1 (t1.below (stb_rw (stb_it n)) hG hW) (fun b h => Nat.lt_of_lt_of_le (hG b h) hW.size) (by simp only [List.length_append] at hz; omega))
  obtain ⟨P3, hP3⟩ : ∃ P, P = listE (ceE (itE n)) x.2.2.1 := ⟨_, rfl⟩
  have C3 : Hid (∀ (W : World), Below w.heap.size w W → Calls Tryz.prog 85 #[v2] W (StrE W P3)) := Lib.hid (fun W hW => by rw [hP3]; exact str_cells (itP n) (itE n) (stb_it n) (str_items n) G W v2 x.2.2.1 (t2.below (stb_ce (stb_it n)) hG hW) (fun b h => Nat.lt_of_lt_of_le (hG b h) hW.size) (by simp only [List.length_append] at hz; omega))
  obtain ⟨P4, hP4⟩ : ∃ P, P = hdE x.2.2.2.1 := ⟨_, rfl⟩
  have C4 : Hid (∀ (W : World), Below w.heap.size w W → Calls Tryz.prog 69 #[.agg #[h0, h1, h2, h3, h4]] W (StrE W P4)) := Lib.hid (fun W hW => by rw [hP4]; exact str_head G W _ x.2.2.2.1 (Rp.below stb_hd t3 hG hW) (fun b h => Nat.lt_of_lt_of_le (hG b h) hW.size) (by simp only [List.length_append] at hz; omega))
  obtain ⟨P5, hP5⟩ : ∃ P, P = stgE x.2.2.2.2 := ⟨_, rfl⟩
  have C5 : Hid (∀ (W : World), Below w.heap.size w W → Calls Tryz.prog 86 #[.agg #[s0, s1, s2, s3]] W (StrE W P5)) := Lib.hid (fun W hW => by rw [hP5]; exact str_settings G W _ x.2.2.2.2 (Rp.below stb_stg t4 hG hW) (fun b h => Nat.lt_of_lt_of_le (hG b h) hW.size) (by simp only [List.length_append] at hz; omega))
  rw [← hP1, ← hP2, ← hP3, ← hP4, ← hP5] at hz hRR
  obtain ⟨Q1, hQ1⟩ : ∃ Q, Q = P1 ++ P2 := ⟨_, rfl⟩
  have ka2 := addL P1 P2 (by simp only [List.length_append] at hz ⊢; omega)
  rw [← hQ1] at ka2
  obtain ⟨Q2, hQ2⟩ : ∃ Q, Q = Q1 ++ P3 := ⟨_, rfl⟩
  have ka3 := addL Q1 P3 (by rw [hQ1]; simp only [List.length_append] at hz ⊢; omega)
  rw [← hQ2] at ka3
  obtain ⟨Q3, hQ3⟩ : ∃ Q, Q = Q2 ++ P4 := ⟨_, rfl⟩
  have ka4 := addL Q2 P4 (by rw [hQ2, hQ1]; simp only [List.length_append] at hz ⊢; omega)
  rw [← hQ3] at ka4
  obtain ⟨Q4, hQ4⟩ : ∃ Q, Q = Q3 ++ P5 := ⟨_, rfl⟩
  have ka5 := addL Q3 P5 (by rw [hQ3, hQ2, hQ1]; simp only [List.length_append] at hz ⊢; omega)
  rw [← hQ4] at ka5
  rw [← hQ1, ← hQ2, ← hQ3, ← hQ4] at hRR
  have HRR := Lib.hid hRR
  clear hz hRR hP1 hP2 hP3 hP4 hP5 hQ1 hQ2 hQ3 hQ4
  have hX : (w.alloc (.cells #[v0, v1, v2, h0, h1, h2, h3, h4, s0, s1, s2, s3] 75)).drew.heap[w.heap.size]? = some (.cells #[v0, v1, v2, h0, h1, h2, h3, h4, s0, s1, s2, s3] 75 (0, 0)) := heap_alloc_new w _
  have HB : Hid (Below w.heap.size w (w.alloc (.cells #[v0, v1, v2, h0, h1, h2, h3, h4, s0, s1, s2, s3] 75)).drew) := Lib.hid ((Below.refl _ _).alloc (Nat.le_refl _) _).drew
  go_enter Tryz.func89, Tryz.ntmps89
  go_upto_region 1 with fail
  obtain ⟨wy, hwy⟩ : ∃ wy, wy = (w.alloc (.cells #[v0, v1, v2, h0, h1, h2, h3, h4, s0, s1, s2, s3] 75)) := ⟨_, rfl⟩
  rw [← hwy] at hX HB ⊢
  clear hwy
  refine wp_region_seq (S := fun w' => w'.heap[w.heap.size]? = some (.cells #[v0, v1, v2, h0, h1, h2, h3, h4, s0, s1, s2, s3] 75 (0, 0))) [(true, 0), (true, 1), (true, 3), (true, 4), (true, 7), (true, 8), (true, 11), (true, 12), (true, 15), (true, 16), (false, 2), (false, 5), (true, 6), (false, 9), (true, 10), (false, 13), (true, 14), (false, 17), (true, 18), (true, 19)] (by kernel_rfl) (by kernel_rfl) hX ?_
  simp only [pickL, List.getElem?_cons_succ, List.getElem?_cons_zero]
  refine sq_load (.pointer (some ⟨w.heap.size, 0, none⟩)) (fun w' hS => by go_simp) ?_
  simp only [Act.put, List.setIfInBounds_toArray, List.set_cons_zero, List.set_cons_succ]
  refine sq_load (v0) (fun w' hS => by have q := blk_cell hS 0; go_simp) ?_
  simp only [Act.put, List.setIfInBounds_toArray, List.set_cons_zero, List.set_cons_succ]
  refine sq_load (.pointer (some ⟨w.heap.size, 1, none⟩)) (fun w' hS => by go_simp) ?_
  simp only [Act.put, List.setIfInBounds_toArray, List.set_cons_zero, List.set_cons_succ]
  refine sq_load (v1) (fun w' hS => by have q := blk_cell hS 1; go_simp) ?_
  simp only [Act.put, List.setIfInBounds_toArray, List.set_cons_zero, List.set_cons_succ]
  refine sq_load (.pointer (some ⟨w.heap.size, 2, none⟩)) (fun w' hS => by go_simp) ?_
  simp only [Act.put, List.setIfInBounds_toArray, List.set_cons_zero, List.set_cons_succ]
  refine sq_load (v2) (fun w' hS => by have q := blk_cell hS 2; go_simp) ?_
  simp only [Act.put, List.setIfInBounds_toArray, List.set_cons_zero, List.set_cons_succ]
  refine sq_load (.pointer (some ⟨w.heap.size, 3, none⟩)) (fun w' hS => by go_simp) ?_
  simp only [Act.put, List.setIfInBounds_toArray, List.set_cons_zero, List.set_cons_succ]
  refine sq_load (.agg #[h0, h1, h2, h3, h4]) (fun w' hS => by have q0 := blk_cell hS 3; have q1 := blk_cell hS 4; have q2 := blk_cell hS 5; have q3 := blk_cell hS 6; have q4 := blk_cell hS 7; go_simp) ?_
  simp only [Act.put, List.setIfInBounds_toArray, List.set_cons_zero, List.set_cons_succ]
  refine sq_load (.pointer (some ⟨w.heap.size, 8, none⟩)) (fun w' hS => by go_simp) ?_
  simp only [Act.put, List.setIfInBounds_toArray, List.set_cons_zero, List.set_cons_succ]
  refine sq_load (.agg #[s0, s1, s2, s3]) (fun w' hS => by have q0 := blk_cell hS 8; have q1 := blk_cell hS 9; have q2 := blk_cell hS 10; have q3 := blk_cell hS 11; go_simp) ?_
  simp only [Act.put, List.setIfInBounds_toArray, List.set_cons_zero, List.set_cons_succ]
  refine sq_call 25 #[v0] (by go_simp) ?_
  refine Calls.mono (C1.out _ HB.out) ?_
  rintro e wx1 ⟨rfl, hb1⟩
  replace hX := (hb1.block _ (lt_of_blk hX)).trans hX
  replace HB := Lib.hid (HB.out.trans (hb1.mono HB.out.size))
  clear hb1
  refine ⟨_, rfl, hX, ?_⟩
  simp only [Act.put, List.setIfInBounds_toArray, List.set_cons_zero, List.set_cons_succ]
  refine sq_call 70 #[v1] (by go_simp) ?_
  refine Calls.mono (C2.out _ HB.out) ?_
  rintro e wx2 ⟨rfl, hb2⟩
  replace hX := (hb2.block _ (lt_of_blk hX)).trans hX
  replace HB := Lib.hid (HB.out.trans (hb2.mono HB.out.size))
  clear hb2
  refine ⟨_, rfl, hX, ?_⟩
  simp only [Act.put, List.setIfInBounds_toArray, List.set_cons_zero, List.set_cons_succ]
  refine sq_load (.string (mkB (Q1))) (fun w' hS => by go_simp) ?_
  simp only [Act.put, List.setIfInBounds_toArray, List.set_cons_zero, List.set_cons_succ]
  refine sq_call 85 #[v2] (by go_simp) ?_
  refine Calls.mono (C3.out _ HB.out) ?_
  rintro e wx3 ⟨rfl, hb3⟩
  replace hX := (hb3.block _ (lt_of_blk hX)).trans hX
  replace HB := Lib.hid (HB.out.trans (hb3.mono HB.out.size))
  clear hb3
  refine ⟨_, rfl, hX, ?_⟩
  simp only [Act.put, List.setIfInBounds_toArray, List.set_cons_zero, List.set_cons_succ]
  refine sq_load (.string (mkB (Q2))) (fun w' hS => by go_simp) ?_
  simp only [Act.put, List.setIfInBounds_toArray, List.set_cons_zero, List.set_cons_succ]
  refine sq_call 69 #[.agg #[h0, h1, h2, h3, h4]] (by go_simp) ?_
  refine Calls.mono (C4.out _ HB.out) ?_
  rintro e wx4 ⟨rfl, hb4⟩
  replace hX := (hb4.block _ (lt_of_blk hX)).trans hX
  replace HB := Lib.hid (HB.out.trans (hb4.mono HB.out.size))
  clear hb4
  refine ⟨_, rfl, hX, ?_⟩
  simp only [Act.put, List.setIfInBounds_toArray, List.set_cons_zero, List.set_cons_succ]
  refine sq_load (.string (mkB (Q3))) (fun w' hS => by go_simp) ?_
  simp only [Act.put, List.setIfInBounds_toArray, List.set_cons_zero, List.set_cons_succ]
  refine sq_call 86 #[.agg #[s0, s1, s2, s3]] (by go_simp) ?_
  refine Calls.mono (C5.out _ HB.out) ?_
  rintro e wx5 ⟨rfl, hb5⟩
  replace hX := (hb5.block _ (lt_of_blk hX)).trans hX
  replace HB := Lib.hid (HB.out.trans (hb5.mono HB.out.size))
  clear hb5
  refine ⟨_, rfl, hX, ?_⟩
  simp only [Act.put, List.setIfInBounds_toArray, List.set_cons_zero, List.set_cons_succ]
  refine sq_load (.string (mkB (Q4))) (fun w' hS => by go_simp) ?_
  simp only [Act.put, List.setIfInBounds_toArray, List.set_cons_zero, List.set_cons_succ]
  refine sq_load (.string (mkB (Q4))) (fun w' hS => by go_simp) ?_
  simp only [Act.put, List.setIfInBounds_toArray, List.set_cons_zero, List.set_cons_succ]
  refine sq_done ?_
  clear hX ka2 ka3 ka4 ka5
  go_wp2_with fail
  go_ret
  exact ⟨by rw [HRR.out]; rfl, HB.out⟩
theorem len_12b {vs : List Value} (h : vs.length = 12) : ∃ v0 v1 v2 v3 v4 v5 v6 v7 v8 v9 v10 v11, vs = [v0, v1, v2, v3, v4, v5, v6, v7, v8, v9, v10, v11] := len_12 h
theorem pc_len {n : Nat} {w : World} {G : Nat → Prop} {vs : List Value} {x : Pc n} (h : pcP n w G vs x) : vs.length = 12 := by
  obtain ⟨v0, v1, v2, h0, h1, h2, h3, h4, s0, s1, s2, s3, rfl, _⟩ := h
  rfl

set_option maxRecDepth 100000 in
set_option maxHeartbeats 4000000 in
theorem str_splice (n : Nat) (G : Nat → Prop) (w : World) (vs : List Value) (x : Sp n) (hR : spP n w G vs x) (hG : ∀ b, G b → b < w.heap.size) (hz : (spE n x).length ≤ 1099511627776) : Calls Tryz.prog 36 #[.agg vs.toArray] w (StrE w (spE n x)) := by
  obtain ⟨va, vb, rfl, hla, ⟨hi1, hi2, hi3, hi4⟩, ta, tb⟩ := hR
  obtain ⟨a0, a1, a2, a3, a4, a5, a6, a7, a8, a9, a10, a11, rfl⟩ := len_12 hla
  obtain ⟨b0, b1, b2, b3, b4, b5, b6, b7, b8, b9, b10, b11, rfl⟩ := len_12 (pc_len tb)
  have hE0 : spE n x = [x.1, x.2.1, x.2.2.1, x.2.2.2.1].flatMap encN ++ pcE n x.2.2.2.2.1 ++ pcE n x.2.2.2.2.2 := by
    simp [spE, seqE]
  rw [hE0] at hz ⊢
  clear hE0
  obtain ⟨RR, hRR⟩ : ∃ R, R = [x.1, x.2.1, x.2.2.1, x.2.2.2.1].flatMap encN ++ pcE n x.2.2.2.2.1 ++ pcE n x.2.2.2.2.2 := ⟨_, rfl⟩
  rw [← hRR]
  obtain ⟨P1, hP1⟩ : ∃ P, P = [x.1, x.2.1, x.2.2.1, x.2.2.2.1].flatMap encN := ⟨_, rfl⟩
  have C1 : Hid (∀ (W : World) (g : Nat), (∀ (j : Nat) (y : Int), [x.1, x.2.1, x.2.2.1, x.2.2.2.1][j]? = some y → W.cell? ⟨g, j, none⟩ = some (.int .i64 y)) → Calls Tryz.prog 67 #[.slice (some ⟨g, 0, none⟩) 4 4] W (StrE W P1)) := Lib.hid (fun W g h => by rw [hP1]; exact nums67 [x.1, x.2.1, x.2.2.1, x.2.2.2.1] g 4 W h (by simp only [List.mem_cons, List.not_mem_nil, or_false]; rintro m (rfl | rfl | rfl | rfl) <;> assumption) (by simp))
  obtain ⟨P2, hP2⟩ : ∃ P, P = pcE n x.2.2.2.2.1 := ⟨_, rfl⟩
  have C2 : Hid (∀ (W : World), Below w.heap.size w W → Calls Tryz.prog 89 #[.agg #[a0, a1, a2, a3, a4, a5, a6, a7, a8, a9, a10, a11]] W (StrE W P2)) := Lib.hid (fun W hW => by rw [hP2]; exact str_piece n G W _ x.2.2.2.2.1 (Rp.below (stb_pc n) ta hG hW) (fun b h => Nat.lt_of_lt_of_le (hG b h) hW.size) (by simp only [List.length_append] at hz; omega))
  obtain ⟨P3, hP3⟩ : ∃ P, P = pcE n x.2.2.2.2.2 := ⟨_, rfl⟩
  have C3 : Hid (∀ (W : World), Below w.heap.size w W → Calls Tryz.prog 89 #[.agg #[b0, b1, b2, b3, b4, b5, b6, b7, b8, b9, b10, b11]] W (StrE W P3)) := Lib.hid (fun W hW => by rw [hP3]; exact str_piece n G W _ x.2.2.2.2.2 (Rp.below (stb_pc n) tb hG hW) (fun b h => Nat.lt_of_lt_of_le (hG b h) hW.size) (by simp only [List.length_append] at hz; omega))
  rw [← hP1, ← hP2, ← hP3] at hz hRR
  obtain ⟨Q1, hQ1⟩ : ∃ Q, Q = P1 ++ P2 := ⟨_, rfl⟩
  have ka2 := addL P1 P2 (by simp only [List.length_append] at hz ⊢; omega)
  rw [← hQ1] at ka2
  obtain ⟨Q2, hQ2⟩ : ∃ Q, Q = Q1 ++ P3 := ⟨_, rfl⟩
  have ka3 := addL Q1 P3 (by rw [hQ1]; simp only [List.length_append] at hz ⊢; omega)
  rw [← hQ2] at ka3
  rw [← hQ1, ← hQ2] at hRR
  have HRR := Lib.hid hRR
  clear hz hRR hP1 hP2 hP3 hQ1 hQ2
  have hX : (w.alloc (.cells #[.int .i64 x.1, .int .i64 x.2.1, .int .i64 x.2.2.1, .int .i64 x.2.2.2.1, a0, a1, a2, a3, a4, a5, a6, a7, a8, a9, a10, a11, b0, b1, b2, b3, b4, b5, b6, b7, b8, b9, b10, b11] 77)).drew.heap[w.heap.size]? = some (.cells #[.int .i64 x.1, .int .i64 x.2.1, .int .i64 x.2.2.1, .int .i64 x.2.2.2.1, a0, a1, a2, a3, a4, a5, a6, a7, a8, a9, a10, a11, b0, b1, b2, b3, b4, b5, b6, b7, b8, b9, b10, b11] 77 (0, 0)) := heap_alloc_new w _
  have HB : Hid (Below w.heap.size w (w.alloc (.cells #[.int .i64 x.1, .int .i64 x.2.1, .int .i64 x.2.2.1, .int .i64 x.2.2.2.1, a0, a1, a2, a3, a4, a5, a6, a7, a8, a9, a10, a11, b0, b1, b2, b3, b4, b5, b6, b7, b8, b9, b10, b11] 77)).drew) := Lib.hid ((Below.refl _ _).alloc (Nat.le_refl _) _).drew
  go_enter Tryz.func36, Tryz.ntmps36
  go_upto_region 1 with fail
  obtain ⟨wy, hwy⟩ : ∃ wy, wy = (w.alloc (.cells #[.int .i64 x.1, .int .i64 x.2.1, .int .i64 x.2.2.1, .int .i64 x.2.2.2.1, a0, a1, a2, a3, a4, a5, a6, a7, a8, a9, a10, a11, b0, b1, b2, b3, b4, b5, b6, b7, b8, b9, b10, b11] 77)) := ⟨_, rfl⟩
  rw [← hwy] at hX HB ⊢
  clear hwy
  refine wp_region_seq (S := fun w' => w'.heap[w.heap.size]? = some (.cells #[.int .i64 x.1, .int .i64 x.2.1, .int .i64 x.2.2.1, .int .i64 x.2.2.2.1, a0, a1, a2, a3, a4, a5, a6, a7, a8, a9, a10, a11, b0, b1, b2, b3, b4, b5, b6, b7, b8, b9, b10, b11] 77 (0, 0))) [(true, 0), (true, 1), (true, 2), (true, 3), (true, 4), (true, 5), (true, 6), (true, 7), (true, 10), (true, 11), (true, 14), (true, 15), (false, 8), (false, 9), (false, 12), (true, 13), (false, 16), (true, 17), (true, 18)] (by kernel_rfl) (by kernel_rfl) hX ?_
  simp only [pickL, List.getElem?_cons_succ, List.getElem?_cons_zero]
  refine sq_load (.pointer (some ⟨w.heap.size, 0, none⟩)) (fun w' hS => by go_simp) ?_
  simp only [Act.put, List.setIfInBounds_toArray, List.set_cons_zero, List.set_cons_succ]
  refine sq_load (.int .i64 x.1) (fun w' hS => by have q := blk_cell hS 0; go_simp) ?_
  simp only [Act.put, List.setIfInBounds_toArray, List.set_cons_zero, List.set_cons_succ]
  refine sq_load (.pointer (some ⟨w.heap.size, 1, none⟩)) (fun w' hS => by go_simp) ?_
  simp only [Act.put, List.setIfInBounds_toArray, List.set_cons_zero, List.set_cons_succ]
  refine sq_load (.int .i64 x.2.1) (fun w' hS => by have q := blk_cell hS 1; go_simp) ?_
  simp only [Act.put, List.setIfInBounds_toArray, List.set_cons_zero, List.set_cons_succ]
  refine sq_load (.pointer (some ⟨w.heap.size, 2, none⟩)) (fun w' hS => by go_simp) ?_
  simp only [Act.put, List.setIfInBounds_toArray, List.set_cons_zero, List.set_cons_succ]
  refine sq_load (.int .i64 x.2.2.1) (fun w' hS => by have q := blk_cell hS 2; go_simp) ?_
  simp only [Act.put, List.setIfInBounds_toArray, List.set_cons_zero, List.set_cons_succ]
  refine sq_load (.pointer (some ⟨w.heap.size, 3, none⟩)) (fun w' hS => by go_simp) ?_
  simp only [Act.put, List.setIfInBounds_toArray, List.set_cons_zero, List.set_cons_succ]
  refine sq_load (.int .i64 x.2.2.2.1) (fun w' hS => by have q := blk_cell hS 3; go_simp) ?_
  simp only [Act.put, List.setIfInBounds_toArray, List.set_cons_zero, List.set_cons_succ]
  refine sq_load (.pointer (some ⟨w.heap.size, 4, none⟩)) (fun w' hS => by go_simp) ?_
  simp only [Act.put, List.setIfInBounds_toArray, List.set_cons_zero, List.set_cons_succ]
  refine sq_load (.agg #[a0, a1, a2, a3, a4, a5, a6, a7, a8, a9, a10, a11]) (fun w' hS => by have q0 := blk_cell hS 4; have q1 := blk_cell hS 5; have q2 := blk_cell hS 6; have q3 := blk_cell hS 7; have q4 := blk_cell hS 8; have q5 := blk_cell hS 9; have q6 := blk_cell hS 10; have q7 := blk_cell hS 11; have q8 := blk_cell hS 12; have q9 := blk_cell hS 13; have q10 := blk_cell hS 14; have q11 := blk_cell hS 15; go_simp) ?_
  simp only [Act.put, List.setIfInBounds_toArray, List.set_cons_zero, List.set_cons_succ]
  refine sq_load (.pointer (some ⟨w.heap.size, 16, none⟩)) (fun w' hS => by go_simp) ?_
  simp only [Act.put, List.setIfInBounds_toArray, List.set_cons_zero, List.set_cons_succ]
  refine sq_load (.agg #[b0, b1, b2, b3, b4, b5, b6, b7, b8, b9, b10, b11]) (fun w' hS => by have q0 := blk_cell hS 16; have q1 := blk_cell hS 17; have q2 := blk_cell hS 18; have q3 := blk_cell hS 19; have q4 := blk_cell hS 20; have q5 := blk_cell hS 21; have q6 := blk_cell hS 22; have q7 := blk_cell hS 23; have q8 := blk_cell hS 24; have q9 := blk_cell hS 25; have q10 := blk_cell hS 26; have q11 := blk_cell hS 27; go_simp) ?_
  simp only [Act.put, List.setIfInBounds_toArray, List.set_cons_zero, List.set_cons_succ]
  refine sq_value (.slice (some ⟨wy.drew.heap.size, 0, none⟩) 4 4) (wy.drew.alloc (.cells #[.int .i64 x.1, .int .i64 x.2.1, .int .i64 x.2.2.1, .int .i64 x.2.2.2.1] 3)) (by go_simp) ?_ ?_
  · exact (Below.heap_alloc _ _ _ (lt_of_blk hX)).trans hX
  have hq1 : wy.drew.heap.size < (wy.drew.alloc (.cells #[.int .i64 x.1, .int .i64 x.2.1, .int .i64 x.2.2.1, .int .i64 x.2.2.2.1] 3)).heap.size := by simp
  have hn1 : (wy.drew.alloc (.cells #[.int .i64 x.1, .int .i64 x.2.1, .int .i64 x.2.2.1, .int .i64 x.2.2.2.1] 3)).heap[wy.drew.heap.size]? = some (.cells #[.int .i64 x.1, .int .i64 x.2.1, .int .i64 x.2.2.1, .int .i64 x.2.2.2.1] 3 (0, 0)) := heap_alloc_new _ _
  have ha1 : Below wy.drew.heap.size wy.drew (wy.drew.alloc (.cells #[.int .i64 x.1, .int .i64 x.2.1, .int .i64 x.2.2.1, .int .i64 x.2.2.2.1] 3)) := (Below.refl _ _).alloc (Nat.le_refl _) _
  obtain ⟨wb1, hwb1⟩ : ∃ W, W = wy.drew.alloc (.cells #[.int .i64 x.1, .int .i64 x.2.1, .int .i64 x.2.2.1, .int .i64 x.2.2.2.1] 3) := ⟨_, rfl⟩
  obtain ⟨g1, hg1⟩ : ∃ g, g = wy.drew.heap.size := ⟨_, rfl⟩
  rw [← hwb1] at hq1 hn1 ha1 ⊢
  rw [← hg1] at hn1 ⊢
  replace hX := (ha1.block _ (lt_of_blk hX)).trans hX
  replace HB := Lib.hid (HB.out.trans (ha1.mono HB.out.size))
  clear hwb1 hg1 ha1 hq1
  simp only [Act.put, List.setIfInBounds_toArray, List.set_cons_zero, List.set_cons_succ]
  refine sq_call 67 #[.slice (some ⟨g1, 0, none⟩) 4 4] (by go_simp) ?_
  refine Calls.mono (C1.out _ g1 (fun j y hj => (blk_cell hn1 j).trans (by rw [List.getElem?_toArray]; exact intV_get hj))) ?_
  rintro e wx1 ⟨rfl, hb1⟩
  replace hX := (hb1.block _ (lt_of_blk hX)).trans hX
  clear hn1
  replace HB := Lib.hid (HB.out.trans (hb1.mono HB.out.size))
  clear hb1
  refine ⟨_, rfl, hX, ?_⟩
  simp only [Act.put, List.setIfInBounds_toArray, List.set_cons_zero, List.set_cons_succ]
  refine sq_call 89 #[.agg #[a0, a1, a2, a3, a4, a5, a6, a7, a8, a9, a10, a11]] (by go_simp) ?_
  refine Calls.mono (C2.out _ HB.out) ?_
  rintro e wx2 ⟨rfl, hb2⟩
  replace hX := (hb2.block _ (lt_of_blk hX)).trans hX
  replace HB := Lib.hid (HB.out.trans (hb2.mono HB.out.size))
  clear hb2
  refine ⟨_, rfl, hX, ?_⟩
  simp only [Act.put, List.setIfInBounds_toArray, List.set_cons_zero, List.set_cons_succ]
  refine sq_load (.string (mkB (Q1))) (fun w' hS => by go_simp) ?_
  simp only [Act.put, List.setIfInBounds_toArray, List.set_cons_zero, List.set_cons_succ]
  refine sq_call 89 #[.agg #[b0, b1, b2, b3, b4, b5, b6, b7, b8, b9, b10, b11]] (by go_simp) ?_
  refine Calls.mono (C3.out _ HB.out) ?_
  rintro e wx3 ⟨rfl, hb3⟩
  replace hX := (hb3.block _ (lt_of_blk hX)).trans hX
  replace HB := Lib.hid (HB.out.trans (hb3.mono HB.out.size))
  clear hb3
  refine ⟨_, rfl, hX, ?_⟩
  simp only [Act.put, List.setIfInBounds_toArray, List.set_cons_zero, List.set_cons_succ]
  refine sq_load (.string (mkB (Q2))) (fun w' hS => by go_simp) ?_
  simp only [Act.put, List.setIfInBounds_toArray, List.set_cons_zero, List.set_cons_succ]
  refine sq_load (.string (mkB (Q2))) (fun w' hS => by go_simp) ?_
  simp only [Act.put, List.setIfInBounds_toArray, List.set_cons_zero, List.set_cons_succ]
  refine sq_done ?_
  clear hX ka2 ka3
  go_wp2_with fail
  go_ret
  exact ⟨by rw [HRR.out]; rfl, HB.out⟩

set_option maxRecDepth 100000 in
set_option maxHeartbeats 4000000 in
theorem str_edit (n : Nat) (G : Nat → Prop) (w : World) (vs : List Value) (x : Ed n) (hR : edP n w G vs x) (hG : ∀ b, G b → b < w.heap.size) (hz : (edE n x).length ≤ 1099511627776) : Calls Tryz.prog 32 #[.agg vs.toArray] w (StrE w (edE n x)) := by
  obtain ⟨xn, xf, xi, xr, xc, xs⟩ := x
  obtain ⟨fv, rv, cv, s0, s1, s2, s3, rfl, ⟨hlx, hix⟩, h1, h2, h3, h4⟩ := hR
  obtain ⟨n0, n1, n2, n3, n4, n5, n6, n7, n8, n9, rfl⟩ := len_10 hlx
  simp only [List.mem_cons, List.not_mem_nil, or_false, forall_eq_or_imp, forall_eq] at hix
  obtain ⟨hi0, hi1, hi2, hi3, hi4, hi5, hi6, hi7, hi8, hi9⟩ := hix
  show Calls Tryz.prog 32 #[.agg #[.int .i64 n0, .int .i64 n1, .int .i64 n2, .int .i64 n3, .int .i64 n4, .int .i64 n5, .int .i64 n6, .int .i64 n7, .int .i64 n8, .int .i64 n9, .bool xf, fv, rv, cv, s0, s1, s2, s3]] w (StrE w (edE n ([n0, n1, n2, n3, n4, n5, n6, n7, n8, n9], xf, xi, xr, xc, xs)))
  have hE0 : edE n ([n0, n1, n2, n3, n4, n5, n6, n7, n8, n9], xf, xi, xr, xc, xs) = [n0, n1, n2, n3, n4, n5, n6, n7, n8, n9].flatMap encN ++ flagE xf ++ listE (itE n) xi ++ listE (rwE (itE n)) xr ++ listE (ceE (itE n)) xc ++ stgE xs := by
    simp only [edE, seqE, tenE, List.append_assoc]
  rw [hE0] at hz ⊢
  clear hE0
  obtain ⟨RR, hRR⟩ : ∃ R, R = [n0, n1, n2, n3, n4, n5, n6, n7, n8, n9].flatMap encN ++ flagE xf ++ listE (itE n) xi ++ listE (rwE (itE n)) xr ++ listE (ceE (itE n)) xc ++ stgE xs := ⟨_, rfl⟩
  rw [← hRR]
  obtain ⟨P1, hP1⟩ : ∃ P, P = [n0, n1, n2, n3, n4, n5, n6, n7, n8, n9].flatMap encN := ⟨_, rfl⟩
  have C1 : Hid (∀ (W : World) (g : Nat), (∀ (j : Nat) (y : Int), [n0, n1, n2, n3, n4, n5, n6, n7, n8, n9][j]? = some y → W.cell? ⟨g, j, none⟩ = some (.int .i64 y)) → Calls Tryz.prog 67 #[.slice (some ⟨g, 0, none⟩) 10 10] W (StrE W P1)) := Lib.hid (fun W g h => by rw [hP1]; exact nums67 [n0, n1, n2, n3, n4, n5, n6, n7, n8, n9] g 10 W h (by simp only [List.mem_cons, List.not_mem_nil, or_false]; rintro m (rfl | rfl | rfl | rfl | rfl | rfl | rfl | rfl | rfl | rfl) <;> assumption) (by simp))
  obtain ⟨P2, hP2⟩ : ∃ P, P = flagE xf := ⟨_, rfl⟩
  have C2 : Hid (∀ (W : World), Calls Tryz.prog 84 #[.bool xf] W (StrE W P2)) := Lib.hid (fun W => by rw [hP2]; exact flg84 xf W)
  obtain ⟨P3, hP3⟩ : ∃ P, P = listE (itE n) xi := ⟨_, rfl⟩
  have C3 : Hid (∀ (W : World), Below w.heap.size w W → Calls Tryz.prog 25 #[fv] W (StrE W P3)) := Lib.hid (fun W hW => by rw [hP3]; exact str_items n G W fv xi (h1.below (stb_it n) hG hW) (fun b h => Nat.lt_of_lt_of_le (hG b h) hW.size) (by simp only [List.length_append] at hz; omega))
  obtain ⟨P4, hP4⟩ : ∃ P, P = listE (rwE (itE n)) xr := ⟨_, rfl⟩
  have C4 : Hid (∀ (W : World), Below w.heap.size w W → Calls Tryz.prog 70 #[rv] W (StrE W P4)) := Lib.hid (fun W hW => by rw [hP4]; exact str_rows (itP n) (itE n) (stb_it n) (str_items n) G W rv xr (h2.below (stb_rw (stb_it n)) hG hW) (fun b h => Nat.lt_of_lt_of_le (hG b h) hW.size) (by simp only [List.length_append] at hz; omega))
  obtain ⟨P5, hP5⟩ : ∃ P, P = listE (ceE (itE n)) xc := ⟨_, rfl⟩
  have C5 : Hid (∀ (W : World), Below w.heap.size w W → Calls Tryz.prog 85 #[cv] W (StrE W P5)) := Lib.hid (fun W hW => by rw [hP5]; exact str_cells (itP n) (itE n) (stb_it n) (str_items n) G W cv xc (h3.below (stb_ce (stb_it n)) hG hW) (fun b h => Nat.lt_of_lt_of_le (hG b h) hW.size) (by simp only [List.length_append] at hz; omega))
  obtain ⟨P6, hP6⟩ : ∃ P, P = stgE xs := ⟨_, rfl⟩
  have C6 : Hid (∀ (W : World), Below w.heap.size w W → Calls Tryz.prog 86 #[.agg #[s0, s1, s2, s3]] W (StrE W P6)) := Lib.hid (fun W hW => by rw [hP6]; exact str_settings G W _ xs (Rp.below stb_stg h4 hG hW) (fun b h => Nat.lt_of_lt_of_le (hG b h) hW.size) (by simp only [List.length_append] at hz; omega))
  rw [← hP1, ← hP2, ← hP3, ← hP4, ← hP5, ← hP6] at hz hRR
  obtain ⟨Q1, hQ1⟩ : ∃ Q, Q = P1 ++ P2 := ⟨_, rfl⟩
  have ka2 := addL P1 P2 (by simp only [List.length_append] at hz ⊢; omega)
  rw [← hQ1] at ka2
  obtain ⟨Q2, hQ2⟩ : ∃ Q, Q = Q1 ++ P3 := ⟨_, rfl⟩
  have ka3 := addL Q1 P3 (by rw [hQ1]; simp only [List.length_append] at hz ⊢; omega)
  rw [← hQ2] at ka3
  obtain ⟨Q3, hQ3⟩ : ∃ Q, Q = Q2 ++ P4 := ⟨_, rfl⟩
  have ka4 := addL Q2 P4 (by rw [hQ2, hQ1]; simp only [List.length_append] at hz ⊢; omega)
  rw [← hQ3] at ka4
  obtain ⟨Q4, hQ4⟩ : ∃ Q, Q = Q3 ++ P5 := ⟨_, rfl⟩
  have ka5 := addL Q3 P5 (by rw [hQ3, hQ2, hQ1]; simp only [List.length_append] at hz ⊢; omega)
  rw [← hQ4] at ka5
  obtain ⟨Q5, hQ5⟩ : ∃ Q, Q = Q4 ++ P6 := ⟨_, rfl⟩
  have ka6 := addL Q4 P6 (by rw [hQ4, hQ3, hQ2, hQ1]; simp only [List.length_append] at hz ⊢; omega)
  rw [← hQ5] at ka6
  rw [← hQ1, ← hQ2, ← hQ3, ← hQ4, ← hQ5] at hRR
  have HRR := Lib.hid hRR
  clear hz hRR hP1 hP2 hP3 hP4 hP5 hP6 hQ1 hQ2 hQ3 hQ4 hQ5
  have hX : (w.alloc (.cells #[.int .i64 n0, .int .i64 n1, .int .i64 n2, .int .i64 n3, .int .i64 n4, .int .i64 n5, .int .i64 n6, .int .i64 n7, .int .i64 n8, .int .i64 n9, .bool xf, fv, rv, cv, s0, s1, s2, s3] 68)).drew.heap[w.heap.size]? = some (.cells #[.int .i64 n0, .int .i64 n1, .int .i64 n2, .int .i64 n3, .int .i64 n4, .int .i64 n5, .int .i64 n6, .int .i64 n7, .int .i64 n8, .int .i64 n9, .bool xf, fv, rv, cv, s0, s1, s2, s3] 68 (0, 0)) := heap_alloc_new w _
  have HB : Hid (Below w.heap.size w (w.alloc (.cells #[.int .i64 n0, .int .i64 n1, .int .i64 n2, .int .i64 n3, .int .i64 n4, .int .i64 n5, .int .i64 n6, .int .i64 n7, .int .i64 n8, .int .i64 n9, .bool xf, fv, rv, cv, s0, s1, s2, s3] 68)).drew) := Lib.hid ((Below.refl _ _).alloc (Nat.le_refl _) _).drew
  go_enter Tryz.func32, Tryz.ntmps32
  go_upto_region 1 with fail
  obtain ⟨wy, hwy⟩ : ∃ wy, wy = (w.alloc (.cells #[.int .i64 n0, .int .i64 n1, .int .i64 n2, .int .i64 n3, .int .i64 n4, .int .i64 n5, .int .i64 n6, .int .i64 n7, .int .i64 n8, .int .i64 n9, .bool xf, fv, rv, cv, s0, s1, s2, s3] 68)) := ⟨_, rfl⟩
  rw [← hwy] at hX HB ⊢
  clear hwy
  refine wp_region_seq (S := fun w' => w'.heap[w.heap.size]? = some (.cells #[.int .i64 n0, .int .i64 n1, .int .i64 n2, .int .i64 n3, .int .i64 n4, .int .i64 n5, .int .i64 n6, .int .i64 n7, .int .i64 n8, .int .i64 n9, .bool xf, fv, rv, cv, s0, s1, s2, s3] 68 (0, 0))) [(true, 0), (true, 1), (true, 2), (true, 3), (true, 4), (true, 5), (true, 6), (true, 7), (true, 8), (true, 9), (true, 10), (true, 11), (true, 12), (true, 13), (true, 14), (true, 15), (true, 16), (true, 17), (true, 18), (true, 19), (true, 22), (true, 23), (true, 26), (true, 27), (true, 30), (true, 31), (true, 34), (true, 35), (true, 38), (true, 39), (false, 20), (false, 21), (false, 24), (true, 25), (false, 28), (true, 29), (false, 32), (true, 33), (false, 36), (true, 37), (false, 40), (true, 41), (true, 42)] (by kernel_rfl) (by kernel_rfl) hX ?_
  simp only [pickL, List.getElem?_cons_succ, List.getElem?_cons_zero]
  refine sq_load (.pointer (some ⟨w.heap.size, 0, none⟩)) (fun w' hS => by go_simp) ?_
  simp only [Act.put, List.setIfInBounds_toArray, List.set_cons_zero, List.set_cons_succ]
  refine sq_load (.int .i64 n0) (fun w' hS => by have q := blk_cell hS 0; go_simp) ?_
  simp only [Act.put, List.setIfInBounds_toArray, List.set_cons_zero, List.set_cons_succ]
  refine sq_load (.pointer (some ⟨w.heap.size, 1, none⟩)) (fun w' hS => by go_simp) ?_
  simp only [Act.put, List.setIfInBounds_toArray, List.set_cons_zero, List.set_cons_succ]
  refine sq_load (.int .i64 n1) (fun w' hS => by have q := blk_cell hS 1; go_simp) ?_
  simp only [Act.put, List.setIfInBounds_toArray, List.set_cons_zero, List.set_cons_succ]
  refine sq_load (.pointer (some ⟨w.heap.size, 2, none⟩)) (fun w' hS => by go_simp) ?_
  simp only [Act.put, List.setIfInBounds_toArray, List.set_cons_zero, List.set_cons_succ]
  refine sq_load (.int .i64 n2) (fun w' hS => by have q := blk_cell hS 2; go_simp) ?_
  simp only [Act.put, List.setIfInBounds_toArray, List.set_cons_zero, List.set_cons_succ]
  refine sq_load (.pointer (some ⟨w.heap.size, 3, none⟩)) (fun w' hS => by go_simp) ?_
  simp only [Act.put, List.setIfInBounds_toArray, List.set_cons_zero, List.set_cons_succ]
  refine sq_load (.int .i64 n3) (fun w' hS => by have q := blk_cell hS 3; go_simp) ?_
  simp only [Act.put, List.setIfInBounds_toArray, List.set_cons_zero, List.set_cons_succ]
  refine sq_load (.pointer (some ⟨w.heap.size, 4, none⟩)) (fun w' hS => by go_simp) ?_
  simp only [Act.put, List.setIfInBounds_toArray, List.set_cons_zero, List.set_cons_succ]
  refine sq_load (.int .i64 n4) (fun w' hS => by have q := blk_cell hS 4; go_simp) ?_
  simp only [Act.put, List.setIfInBounds_toArray, List.set_cons_zero, List.set_cons_succ]
  refine sq_load (.pointer (some ⟨w.heap.size, 5, none⟩)) (fun w' hS => by go_simp) ?_
  simp only [Act.put, List.setIfInBounds_toArray, List.set_cons_zero, List.set_cons_succ]
  refine sq_load (.int .i64 n5) (fun w' hS => by have q := blk_cell hS 5; go_simp) ?_
  simp only [Act.put, List.setIfInBounds_toArray, List.set_cons_zero, List.set_cons_succ]
  refine sq_load (.pointer (some ⟨w.heap.size, 6, none⟩)) (fun w' hS => by go_simp) ?_
  simp only [Act.put, List.setIfInBounds_toArray, List.set_cons_zero, List.set_cons_succ]
  refine sq_load (.int .i64 n6) (fun w' hS => by have q := blk_cell hS 6; go_simp) ?_
  simp only [Act.put, List.setIfInBounds_toArray, List.set_cons_zero, List.set_cons_succ]
  refine sq_load (.pointer (some ⟨w.heap.size, 7, none⟩)) (fun w' hS => by go_simp) ?_
  simp only [Act.put, List.setIfInBounds_toArray, List.set_cons_zero, List.set_cons_succ]
  refine sq_load (.int .i64 n7) (fun w' hS => by have q := blk_cell hS 7; go_simp) ?_
  simp only [Act.put, List.setIfInBounds_toArray, List.set_cons_zero, List.set_cons_succ]
  refine sq_load (.pointer (some ⟨w.heap.size, 8, none⟩)) (fun w' hS => by go_simp) ?_
  simp only [Act.put, List.setIfInBounds_toArray, List.set_cons_zero, List.set_cons_succ]
  refine sq_load (.int .i64 n8) (fun w' hS => by have q := blk_cell hS 8; go_simp) ?_
  simp only [Act.put, List.setIfInBounds_toArray, List.set_cons_zero, List.set_cons_succ]
  refine sq_load (.pointer (some ⟨w.heap.size, 9, none⟩)) (fun w' hS => by go_simp) ?_
  simp only [Act.put, List.setIfInBounds_toArray, List.set_cons_zero, List.set_cons_succ]
  refine sq_load (.int .i64 n9) (fun w' hS => by have q := blk_cell hS 9; go_simp) ?_
  simp only [Act.put, List.setIfInBounds_toArray, List.set_cons_zero, List.set_cons_succ]
  refine sq_load (.pointer (some ⟨w.heap.size, 10, none⟩)) (fun w' hS => by go_simp) ?_
  simp only [Act.put, List.setIfInBounds_toArray, List.set_cons_zero, List.set_cons_succ]
  refine sq_load (.bool xf) (fun w' hS => by have q := blk_cell hS 10; go_simp) ?_
  simp only [Act.put, List.setIfInBounds_toArray, List.set_cons_zero, List.set_cons_succ]
  refine sq_load (.pointer (some ⟨w.heap.size, 11, none⟩)) (fun w' hS => by go_simp) ?_
  simp only [Act.put, List.setIfInBounds_toArray, List.set_cons_zero, List.set_cons_succ]
  refine sq_load (fv) (fun w' hS => by have q := blk_cell hS 11; go_simp) ?_
  simp only [Act.put, List.setIfInBounds_toArray, List.set_cons_zero, List.set_cons_succ]
  refine sq_load (.pointer (some ⟨w.heap.size, 12, none⟩)) (fun w' hS => by go_simp) ?_
  simp only [Act.put, List.setIfInBounds_toArray, List.set_cons_zero, List.set_cons_succ]
  refine sq_load (rv) (fun w' hS => by have q := blk_cell hS 12; go_simp) ?_
  simp only [Act.put, List.setIfInBounds_toArray, List.set_cons_zero, List.set_cons_succ]
  refine sq_load (.pointer (some ⟨w.heap.size, 13, none⟩)) (fun w' hS => by go_simp) ?_
  simp only [Act.put, List.setIfInBounds_toArray, List.set_cons_zero, List.set_cons_succ]
  refine sq_load (cv) (fun w' hS => by have q := blk_cell hS 13; go_simp) ?_
  simp only [Act.put, List.setIfInBounds_toArray, List.set_cons_zero, List.set_cons_succ]
  refine sq_load (.pointer (some ⟨w.heap.size, 14, none⟩)) (fun w' hS => by go_simp) ?_
  simp only [Act.put, List.setIfInBounds_toArray, List.set_cons_zero, List.set_cons_succ]
  refine sq_load (.agg #[s0, s1, s2, s3]) (fun w' hS => by have q0 := blk_cell hS 14; have q1 := blk_cell hS 15; have q2 := blk_cell hS 16; have q3 := blk_cell hS 17; go_simp) ?_
  simp only [Act.put, List.setIfInBounds_toArray, List.set_cons_zero, List.set_cons_succ]
  refine sq_value (.slice (some ⟨wy.drew.heap.size, 0, none⟩) 10 10) (wy.drew.alloc (.cells #[.int .i64 n0, .int .i64 n1, .int .i64 n2, .int .i64 n3, .int .i64 n4, .int .i64 n5, .int .i64 n6, .int .i64 n7, .int .i64 n8, .int .i64 n9] 3)) (by go_simp) ?_ ?_
  · exact (Below.heap_alloc _ _ _ (lt_of_blk hX)).trans hX
  have hq1 : wy.drew.heap.size < (wy.drew.alloc (.cells #[.int .i64 n0, .int .i64 n1, .int .i64 n2, .int .i64 n3, .int .i64 n4, .int .i64 n5, .int .i64 n6, .int .i64 n7, .int .i64 n8, .int .i64 n9] 3)).heap.size := by simp
  have hn1 : (wy.drew.alloc (.cells #[.int .i64 n0, .int .i64 n1, .int .i64 n2, .int .i64 n3, .int .i64 n4, .int .i64 n5, .int .i64 n6, .int .i64 n7, .int .i64 n8, .int .i64 n9] 3)).heap[wy.drew.heap.size]? = some (.cells #[.int .i64 n0, .int .i64 n1, .int .i64 n2, .int .i64 n3, .int .i64 n4, .int .i64 n5, .int .i64 n6, .int .i64 n7, .int .i64 n8, .int .i64 n9] 3 (0, 0)) := heap_alloc_new _ _
  have ha1 : Below wy.drew.heap.size wy.drew (wy.drew.alloc (.cells #[.int .i64 n0, .int .i64 n1, .int .i64 n2, .int .i64 n3, .int .i64 n4, .int .i64 n5, .int .i64 n6, .int .i64 n7, .int .i64 n8, .int .i64 n9] 3)) := (Below.refl _ _).alloc (Nat.le_refl _) _
  obtain ⟨wb1, hwb1⟩ : ∃ W, W = wy.drew.alloc (.cells #[.int .i64 n0, .int .i64 n1, .int .i64 n2, .int .i64 n3, .int .i64 n4, .int .i64 n5, .int .i64 n6, .int .i64 n7, .int .i64 n8, .int .i64 n9] 3) := ⟨_, rfl⟩
  obtain ⟨g1, hg1⟩ : ∃ g, g = wy.drew.heap.size := ⟨_, rfl⟩
  rw [← hwb1] at hq1 hn1 ha1 ⊢
  rw [← hg1] at hn1 ⊢
  replace hX := (ha1.block _ (lt_of_blk hX)).trans hX
  replace HB := Lib.hid (HB.out.trans (ha1.mono HB.out.size))
  clear hwb1 hg1 ha1 hq1
  simp only [Act.put, List.setIfInBounds_toArray, List.set_cons_zero, List.set_cons_succ]
  refine sq_call 67 #[.slice (some ⟨g1, 0, none⟩) 10 10] (by go_simp) ?_
  refine Calls.mono (C1.out _ g1 (fun j y hj => (blk_cell hn1 j).trans (by rw [List.getElem?_toArray]; exact intV_get hj))) ?_
  rintro e wx1 ⟨rfl, hb1⟩
  replace hX := (hb1.block _ (lt_of_blk hX)).trans hX
  clear hn1
  replace HB := Lib.hid (HB.out.trans (hb1.mono HB.out.size))
  clear hb1
  refine ⟨_, rfl, hX, ?_⟩
  simp only [Act.put, List.setIfInBounds_toArray, List.set_cons_zero, List.set_cons_succ]
  refine sq_call 84 #[.bool xf] (by go_simp) ?_
  refine Calls.mono (C2.out _) ?_
  rintro e wx2 ⟨rfl, hb2⟩
  replace hX := (hb2.block _ (lt_of_blk hX)).trans hX
  replace HB := Lib.hid (HB.out.trans (hb2.mono HB.out.size))
  clear hb2
  refine ⟨_, rfl, hX, ?_⟩
  simp only [Act.put, List.setIfInBounds_toArray, List.set_cons_zero, List.set_cons_succ]
  refine sq_load (.string (mkB (Q1))) (fun w' hS => by go_simp) ?_
  simp only [Act.put, List.setIfInBounds_toArray, List.set_cons_zero, List.set_cons_succ]
  refine sq_call 25 #[fv] (by go_simp) ?_
  refine Calls.mono (C3.out _ HB.out) ?_
  rintro e wx3 ⟨rfl, hb3⟩
  replace hX := (hb3.block _ (lt_of_blk hX)).trans hX
  replace HB := Lib.hid (HB.out.trans (hb3.mono HB.out.size))
  clear hb3
  refine ⟨_, rfl, hX, ?_⟩
  simp only [Act.put, List.setIfInBounds_toArray, List.set_cons_zero, List.set_cons_succ]
  refine sq_load (.string (mkB (Q2))) (fun w' hS => by go_simp) ?_
  simp only [Act.put, List.setIfInBounds_toArray, List.set_cons_zero, List.set_cons_succ]
  refine sq_call 70 #[rv] (by go_simp) ?_
  refine Calls.mono (C4.out _ HB.out) ?_
  rintro e wx4 ⟨rfl, hb4⟩
  replace hX := (hb4.block _ (lt_of_blk hX)).trans hX
  replace HB := Lib.hid (HB.out.trans (hb4.mono HB.out.size))
  clear hb4
  refine ⟨_, rfl, hX, ?_⟩
  simp only [Act.put, List.setIfInBounds_toArray, List.set_cons_zero, List.set_cons_succ]
  refine sq_load (.string (mkB (Q3))) (fun w' hS => by go_simp) ?_
  simp only [Act.put, List.setIfInBounds_toArray, List.set_cons_zero, List.set_cons_succ]
  refine sq_call 85 #[cv] (by go_simp) ?_
  refine Calls.mono (C5.out _ HB.out) ?_
  rintro e wx5 ⟨rfl, hb5⟩
  replace hX := (hb5.block _ (lt_of_blk hX)).trans hX
  replace HB := Lib.hid (HB.out.trans (hb5.mono HB.out.size))
  clear hb5
  refine ⟨_, rfl, hX, ?_⟩
  simp only [Act.put, List.setIfInBounds_toArray, List.set_cons_zero, List.set_cons_succ]
  refine sq_load (.string (mkB (Q4))) (fun w' hS => by go_simp) ?_
  simp only [Act.put, List.setIfInBounds_toArray, List.set_cons_zero, List.set_cons_succ]
  refine sq_call 86 #[.agg #[s0, s1, s2, s3]] (by go_simp) ?_
  refine Calls.mono (C6.out _ HB.out) ?_
  rintro e wx6 ⟨rfl, hb6⟩
  replace hX := (hb6.block _ (lt_of_blk hX)).trans hX
  replace HB := Lib.hid (HB.out.trans (hb6.mono HB.out.size))
  clear hb6
  refine ⟨_, rfl, hX, ?_⟩
  simp only [Act.put, List.setIfInBounds_toArray, List.set_cons_zero, List.set_cons_succ]
  refine sq_load (.string (mkB (Q5))) (fun w' hS => by go_simp) ?_
  simp only [Act.put, List.setIfInBounds_toArray, List.set_cons_zero, List.set_cons_succ]
  refine sq_load (.string (mkB (Q5))) (fun w' hS => by go_simp) ?_
  simp only [Act.put, List.setIfInBounds_toArray, List.set_cons_zero, List.set_cons_succ]
  refine sq_done ?_
  clear hX ka2 ka3 ka4 ka5 ka6
  go_wp2_with fail
  go_ret
  exact ⟨by rw [HRR.out]; rfl, HB.out⟩
end Go.Proofs.YtmhhcfceikcfbaaGreat
