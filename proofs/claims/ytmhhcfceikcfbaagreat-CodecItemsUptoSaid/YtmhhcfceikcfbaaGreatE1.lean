/- Walks: EncodeSplice, EncodeEdit. -/
import Derived.Test.YtmhhcfceikcfbaaGreatK2
import Derived.Test.YtmhhcfceikcfbaaGreatTr
namespace Go.Proofs.YtmhhcfceikcfbaaGreat
open Go.RowKit

theorem byt_ten : Byt tenE := by
  intro l b hb
  unfold tenE at hb
  obtain ⟨x, _, hx⟩ := List.mem_flatMap.1 hb
  exact encN_lt x b hx
theorem byt_sp (n : Nat) : Byt (spE n) := byt_N.seq (byt_N.seq (byt_N.seq (byt_N.seq ((byt_pc n).seq (byt_pc n)))))
theorem byt_ed (n : Nat) : Byt (edE n) := byt_ten.seq (byt_B.seq ((byt_it n).list.seq ((byt_it n).rw.list.seq ((byt_it n).ce.list.seq byt_stg))))
theorem sp_ne {n : Nat} (x : Sp n) : spE n x ≠ [] := by
  intro h
  have h2 := congrArg List.length h
  have h3 := List.length_pos_iff.2 (encN_ne x.1)
  simp only [spE, seqE, List.length_append, List.length_nil] at h2
  omega
theorem ed_ne {n : Nat} (x : Ed n) : edE n x ≠ [] := by
  intro h
  have h2 := congrArg List.length h
  have h3 : 0 < (flagE x.2.1).length := List.length_pos_iff.2 (encN_ne _)
  simp only [edE, seqE, List.length_append, List.length_nil] at h2
  omega
theorem pc_len2 {n : Nat} {w : World} {G : Nat → Prop} {vs : List Value} {x : Pc n} (h : pcP n w G vs x) : vs.length = 12 := by
  obtain ⟨v0, v1, v2, h0, h1, h2, h3, h4, s0, s1, s2, s3, rfl, _⟩ := h
  rfl

set_option maxRecDepth 100000 in
set_option maxHeartbeats 4000000 in
theorem EncSplice34 (n : Nat) (G : Nat → Prop) (w : World) (vs : List Value) (x : Sp n) (hR : spP n w G vs x) (hG : ∀ b, G b → b < w.heap.size) (hz : (spE n x).length ≤ 1099511627776) : Calls Tryz.prog 34 #[.agg vs.toArray] w (StrE w (spE n x)) := by
  obtain ⟨va, vb, rfl, hla, ⟨hi1, hi2, hi3, hi4⟩, ta, tb⟩ := hR
  obtain ⟨a0, a1, a2, a3, a4, a5, a6, a7, a8, a9, a10, a11, rfl⟩ := len_12 hla
  obtain ⟨b0, b1, b2, b3, b4, b5, b6, b7, b8, b9, b10, b11, rfl⟩ := len_12 (pc_len2 tb)
  have hE0 : spE n x = [x.1, x.2.1, x.2.2.1, x.2.2.2.1].flatMap encN ++ pcE n x.2.2.2.2.1 ++ pcE n x.2.2.2.2.2 := by
    simp [spE, seqE]
  have hby : ∀ b ∈ [x.1, x.2.1, x.2.2.1, x.2.2.2.1].flatMap encN ++ pcE n x.2.2.2.2.1 ++ pcE n x.2.2.2.2.2, b < 256 := by rw [← hE0]; exact byt_sp n _
  have hne : [x.1, x.2.1, x.2.2.1, x.2.2.2.1].flatMap encN ++ pcE n x.2.2.2.2.1 ++ pcE n x.2.2.2.2.2 ≠ [] := by rw [← hE0]; exact sp_ne _
  rw [hE0] at hz ⊢
  clear hE0
  obtain ⟨RR, hRR⟩ : ∃ R, R = [x.1, x.2.1, x.2.2.1, x.2.2.2.1].flatMap encN ++ pcE n x.2.2.2.2.1 ++ pcE n x.2.2.2.2.2 := ⟨_, rfl⟩
  rw [← hRR]
  have hb : ((w.alloc (.cells #[.int .i64 x.1, .int .i64 x.2.1, .int .i64 x.2.2.1, .int .i64 x.2.2.2.1, a0, a1, a2, a3, a4, a5, a6, a7, a8, a9, a10, a11, b0, b1, b2, b3, b4, b5, b6, b7, b8, b9, b10, b11] 77)).alloc (.cells #[.slice none 0 0] 95)).heap[w.heap.size]? = some (.cells #[.int .i64 x.1, .int .i64 x.2.1, .int .i64 x.2.2.1, .int .i64 x.2.2.2.1, a0, a1, a2, a3, a4, a5, a6, a7, a8, a9, a10, a11, b0, b1, b2, b3, b4, b5, b6, b7, b8, b9, b10, b11] 77 (0, 0)) := (Below.heap_alloc _ _ _ (by simp)).trans (heap_alloc_new w _)
  have HB : Below w.heap.size w ((w.alloc (.cells #[.int .i64 x.1, .int .i64 x.2.1, .int .i64 x.2.2.1, .int .i64 x.2.2.2.1, a0, a1, a2, a3, a4, a5, a6, a7, a8, a9, a10, a11, b0, b1, b2, b3, b4, b5, b6, b7, b8, b9, b10, b11] 77)).alloc (.cells #[.slice none 0 0] 95)) := ((Below.refl _ _).alloc (Nat.le_refl _) _).alloc (by simp) _
  have hw : WrSB (w.heap.size + 1) (w.heap.size + 1) ((w.alloc (.cells #[.int .i64 x.1, .int .i64 x.2.1, .int .i64 x.2.2.1, .int .i64 x.2.2.2.1, a0, a1, a2, a3, a4, a5, a6, a7, a8, a9, a10, a11, b0, b1, b2, b3, b4, b5, b6, b7, b8, b9, b10, b11] 77)).alloc (.cells #[.slice none 0 0] 95)) [] := by
    have h := WrSB.start (w.alloc (.cells #[.int .i64 x.1, .int .i64 x.2.1, .int .i64 x.2.2.1, .int .i64 x.2.2.2.1, a0, a1, a2, a3, a4, a5, a6, a7, a8, a9, a10, a11, b0, b1, b2, b3, b4, b5, b6, b7, b8, b9, b10, b11] 77))
    rw [show (w.alloc (.cells #[.int .i64 x.1, .int .i64 x.2.1, .int .i64 x.2.2.1, .int .i64 x.2.2.2.1, a0, a1, a2, a3, a4, a5, a6, a7, a8, a9, a10, a11, b0, b1, b2, b3, b4, b5, b6, b7, b8, b9, b10, b11] 77)).heap.size = w.heap.size + 1 by simp] at h
    exact h
  have hs : w.heap.size + 1 ≤ ((w.alloc (.cells #[.int .i64 x.1, .int .i64 x.2.1, .int .i64 x.2.2.1, .int .i64 x.2.2.2.1, a0, a1, a2, a3, a4, a5, a6, a7, a8, a9, a10, a11, b0, b1, b2, b3, b4, b5, b6, b7, b8, b9, b10, b11] 77)).alloc (.cells #[.slice none 0 0] 95)).heap.size := by simp
  go_enter Tryz.func34, Tryz.ntmps34
  go_upto_region 2 with fail
  obtain ⟨V, hV⟩ : ∃ V, V = ((w.alloc (.cells #[.int .i64 x.1, .int .i64 x.2.1, .int .i64 x.2.2.1, .int .i64 x.2.2.2.1, a0, a1, a2, a3, a4, a5, a6, a7, a8, a9, a10, a11, b0, b1, b2, b3, b4, b5, b6, b7, b8, b9, b10, b11] 77)).alloc (.cells #[.slice none 0 0] 95)) := ⟨_, rfl⟩
  rw [← hV] at hb HB hw hs ⊢
  clear hV
  refine wp_region_seq0 (by rfl) ?_
  simp only [List.map]
  refine sq_pure (.pointer (some ⟨w.heap.size, 0, none⟩)) (by go_simp) trivial ?_
  simp only [Act.put, List.setIfInBounds_toArray, List.set_cons_zero, List.set_cons_succ]
  refine sq_pure (.int .i64 x.1) (by have q := blk_cell hb 0; go_simp) trivial ?_
  simp only [Act.put, List.setIfInBounds_toArray, List.set_cons_zero, List.set_cons_succ]
  refine sq_pure (.pointer (some ⟨w.heap.size, 1, none⟩)) (by go_simp) trivial ?_
  simp only [Act.put, List.setIfInBounds_toArray, List.set_cons_zero, List.set_cons_succ]
  refine sq_pure (.int .i64 x.2.1) (by have q := blk_cell hb 1; go_simp) trivial ?_
  simp only [Act.put, List.setIfInBounds_toArray, List.set_cons_zero, List.set_cons_succ]
  refine sq_pure (.pointer (some ⟨w.heap.size, 2, none⟩)) (by go_simp) trivial ?_
  simp only [Act.put, List.setIfInBounds_toArray, List.set_cons_zero, List.set_cons_succ]
  refine sq_pure (.int .i64 x.2.2.1) (by have q := blk_cell hb 2; go_simp) trivial ?_
  simp only [Act.put, List.setIfInBounds_toArray, List.set_cons_zero, List.set_cons_succ]
  refine sq_pure (.pointer (some ⟨w.heap.size, 3, none⟩)) (by go_simp) trivial ?_
  simp only [Act.put, List.setIfInBounds_toArray, List.set_cons_zero, List.set_cons_succ]
  refine sq_pure (.int .i64 x.2.2.2.1) (by have q := blk_cell hb 3; go_simp) trivial ?_
  simp only [Act.put, List.setIfInBounds_toArray, List.set_cons_zero, List.set_cons_succ]
  refine sq_value (.slice (some ⟨V.heap.size, 0, none⟩) 4 4) (V.alloc (.cells #[.int .i64 x.1, .int .i64 x.2.1, .int .i64 x.2.2.1, .int .i64 x.2.2.2.1] 3)) (by go_simp) trivial ?_
  simp only [Act.put, List.setIfInBounds_toArray, List.set_cons_zero, List.set_cons_succ]
  refine sq_call 42 #[.pointer (some ⟨w.heap.size + 1, 0, none⟩), .slice (some ⟨V.heap.size, 0, none⟩) 4 4] (by go_simp) ?_
  refine Calls.mono (number_lit (w.heap.size + 1) (w.heap.size + 1) [x.1, x.2.1, x.2.2.1, x.2.2.2.1] [] V hw (by simp) (by simp only [List.mem_cons, List.not_mem_nil, or_false]; rintro m (rfl | rfl | rfl | rfl) <;> assumption) hs (by simp only [List.length_append, List.length_nil] at hz ⊢; omega)) ?_
  rintro e V1 ⟨rfl, hw2, hk⟩
  have hkb := hk.below hw
  replace HB := HB.trans (hkb.mono (by omega))
  replace hb := (hkb.block _ (by omega)).trans hb
  replace hs := Nat.le_trans hs hkb.size
  replace hw := hw2.buf
  clear hk hkb hw2
  refine ⟨_, rfl, trivial, ?_⟩
  simp only [Act.put, List.setIfInBounds_toArray, List.set_cons_zero, List.set_cons_succ]
  refine sq_done ?_
  rw [List.nil_append] at hw
  go_upto_region 3 with fail
  refine wp_region_seq0 (by rfl) ?_
  simp only [List.map]
  refine sq_pure (.pointer (some ⟨w.heap.size, 4, none⟩)) (by go_simp) trivial ?_
  simp only [Act.put, List.setIfInBounds_toArray, List.set_cons_zero, List.set_cons_succ]
  refine sq_pure (.agg #[a0, a1, a2, a3, a4, a5, a6, a7, a8, a9, a10, a11]) (by have q0 := blk_cell hb 4; have q1 := blk_cell hb 5; have q2 := blk_cell hb 6; have q3 := blk_cell hb 7; have q4 := blk_cell hb 8; have q5 := blk_cell hb 9; have q6 := blk_cell hb 10; have q7 := blk_cell hb 11; have q8 := blk_cell hb 12; have q9 := blk_cell hb 13; have q10 := blk_cell hb 14; have q11 := blk_cell hb 15; go_simp) trivial ?_
  simp only [Act.put, List.setIfInBounds_toArray, List.set_cons_zero, List.set_cons_succ]
  refine sq_call 87 #[.pointer (some ⟨w.heap.size + 1, 0, none⟩), .agg #[a0, a1, a2, a3, a4, a5, a6, a7, a8, a9, a10, a11]] (by go_simp) ?_
  refine Calls.mono (w_piece n (w.heap.size + 1) (w.heap.size + 1) ([x.1, x.2.1, x.2.2.1, x.2.2.2.1].flatMap encN) G V1 _ x.2.2.2.2.1 hw (fun b h => Nat.lt_succ_of_lt (hG b h)) hs (Rp.below (stb_pc n) ta hG HB) (by simp only [List.length_append, List.length_nil] at hz ⊢; omega)) ?_
  rintro e V2 ⟨rfl, hw2, hk⟩
  have hkb := hk.below hw
  replace HB := HB.trans (hkb.mono (by omega))
  replace hb := (hkb.block _ (by omega)).trans hb
  replace hs := Nat.le_trans hs hkb.size
  replace hw := hw2.buf
  clear hk hkb hw2
  refine ⟨_, rfl, trivial, ?_⟩
  simp only [Act.put, List.setIfInBounds_toArray, List.set_cons_zero, List.set_cons_succ]
  refine sq_done ?_
  go_upto_region 4 with fail
  refine wp_region_seq0 (by rfl) ?_
  simp only [List.map]
  refine sq_pure (.pointer (some ⟨w.heap.size, 16, none⟩)) (by go_simp) trivial ?_
  simp only [Act.put, List.setIfInBounds_toArray, List.set_cons_zero, List.set_cons_succ]
  refine sq_pure (.agg #[b0, b1, b2, b3, b4, b5, b6, b7, b8, b9, b10, b11]) (by have q0 := blk_cell hb 16; have q1 := blk_cell hb 17; have q2 := blk_cell hb 18; have q3 := blk_cell hb 19; have q4 := blk_cell hb 20; have q5 := blk_cell hb 21; have q6 := blk_cell hb 22; have q7 := blk_cell hb 23; have q8 := blk_cell hb 24; have q9 := blk_cell hb 25; have q10 := blk_cell hb 26; have q11 := blk_cell hb 27; go_simp) trivial ?_
  simp only [Act.put, List.setIfInBounds_toArray, List.set_cons_zero, List.set_cons_succ]
  refine sq_call 87 #[.pointer (some ⟨w.heap.size + 1, 0, none⟩), .agg #[b0, b1, b2, b3, b4, b5, b6, b7, b8, b9, b10, b11]] (by go_simp) ?_
  refine Calls.mono (w_piece n (w.heap.size + 1) (w.heap.size + 1) ([x.1, x.2.1, x.2.2.1, x.2.2.2.1].flatMap encN ++ pcE n x.2.2.2.2.1) G V2 _ x.2.2.2.2.2 hw (fun b h => Nat.lt_succ_of_lt (hG b h)) hs (Rp.below (stb_pc n) tb hG HB) (by simp only [List.length_append, List.length_nil] at hz ⊢; omega)) ?_
  rintro e V3 ⟨rfl, hw2, hk⟩
  have hkb := hk.below hw
  replace HB := HB.trans (hkb.mono (by omega))
  replace hb := (hkb.block _ (by omega)).trans hb
  replace hs := Nat.le_trans hs hkb.size
  replace hw := hw2.buf
  refine ⟨_, rfl, trivial, ?_⟩
  simp only [Act.put, List.setIfInBounds_toArray, List.set_cons_zero, List.set_cons_succ]
  refine sq_done ?_
  obtain ⟨v, cz, kz⟩ := conv_wr hw2 hne hby
  rw [← hRR] at kz
  have HBh := Lib.hid HB
  clear hw hw2 hk hkb hb hz hne hby hs HB hRR
  go_wp2_with fail
  go_ret
  exact ⟨rfl, HBh.out⟩

set_option maxRecDepth 100000 in
set_option maxHeartbeats 4000000 in
theorem EncEdit30 (n : Nat) (G : Nat → Prop) (w : World) (vs : List Value) (x : Ed n) (hR : edP n w G vs x) (hG : ∀ b, G b → b < w.heap.size) (hz : (edE n x).length ≤ 1099511627776) : Calls Tryz.prog 30 #[.agg vs.toArray] w (StrE w (edE n x)) := by
  obtain ⟨xn, xf, xi, xr, xc, xs⟩ := x
  obtain ⟨fv, rv, cv, s0, s1, s2, s3, rfl, ⟨hlx, hix⟩, h1, h2, h3, h4⟩ := hR
  obtain ⟨n0, n1, n2, n3, n4, n5, n6, n7, n8, n9, rfl⟩ := len_10 hlx
  simp only [List.mem_cons, List.not_mem_nil, or_false, forall_eq_or_imp, forall_eq] at hix
  obtain ⟨hi0, hi1, hi2, hi3, hi4, hi5, hi6, hi7, hi8, hi9⟩ := hix
  show Calls Tryz.prog 30 #[.agg #[.int .i64 n0, .int .i64 n1, .int .i64 n2, .int .i64 n3, .int .i64 n4, .int .i64 n5, .int .i64 n6, .int .i64 n7, .int .i64 n8, .int .i64 n9, .bool xf, fv, rv, cv, s0, s1, s2, s3]] w (StrE w (edE n ([n0, n1, n2, n3, n4, n5, n6, n7, n8, n9], xf, xi, xr, xc, xs)))
  have hE0 : edE n ([n0, n1, n2, n3, n4, n5, n6, n7, n8, n9], xf, xi, xr, xc, xs) = [n0, n1, n2, n3, n4, n5, n6, n7, n8, n9].flatMap encN ++ flagE xf ++ listE (itE n) xi ++ listE (rwE (itE n)) xr ++ listE (ceE (itE n)) xc ++ stgE xs := by
    simp only [edE, seqE, tenE, List.append_assoc]
  have hby : ∀ b ∈ [n0, n1, n2, n3, n4, n5, n6, n7, n8, n9].flatMap encN ++ flagE xf ++ listE (itE n) xi ++ listE (rwE (itE n)) xr ++ listE (ceE (itE n)) xc ++ stgE xs, b < 256 := by rw [← hE0]; exact byt_ed n _
  have hne : [n0, n1, n2, n3, n4, n5, n6, n7, n8, n9].flatMap encN ++ flagE xf ++ listE (itE n) xi ++ listE (rwE (itE n)) xr ++ listE (ceE (itE n)) xc ++ stgE xs ≠ [] := by rw [← hE0]; exact ed_ne _
  rw [hE0] at hz ⊢
  clear hE0
  obtain ⟨RR, hRR⟩ : ∃ R, R = [n0, n1, n2, n3, n4, n5, n6, n7, n8, n9].flatMap encN ++ flagE xf ++ listE (itE n) xi ++ listE (rwE (itE n)) xr ++ listE (ceE (itE n)) xc ++ stgE xs := ⟨_, rfl⟩
  rw [← hRR]
  have hb : ((w.alloc (.cells #[.int .i64 n0, .int .i64 n1, .int .i64 n2, .int .i64 n3, .int .i64 n4, .int .i64 n5, .int .i64 n6, .int .i64 n7, .int .i64 n8, .int .i64 n9, .bool xf, fv, rv, cv, s0, s1, s2, s3] 68)).alloc (.cells #[.slice none 0 0] 95)).heap[w.heap.size]? = some (.cells #[.int .i64 n0, .int .i64 n1, .int .i64 n2, .int .i64 n3, .int .i64 n4, .int .i64 n5, .int .i64 n6, .int .i64 n7, .int .i64 n8, .int .i64 n9, .bool xf, fv, rv, cv, s0, s1, s2, s3] 68 (0, 0)) := (Below.heap_alloc _ _ _ (by simp)).trans (heap_alloc_new w _)
  have HB : Below w.heap.size w ((w.alloc (.cells #[.int .i64 n0, .int .i64 n1, .int .i64 n2, .int .i64 n3, .int .i64 n4, .int .i64 n5, .int .i64 n6, .int .i64 n7, .int .i64 n8, .int .i64 n9, .bool xf, fv, rv, cv, s0, s1, s2, s3] 68)).alloc (.cells #[.slice none 0 0] 95)) := ((Below.refl _ _).alloc (Nat.le_refl _) _).alloc (by simp) _
  have hw : WrSB (w.heap.size + 1) (w.heap.size + 1) ((w.alloc (.cells #[.int .i64 n0, .int .i64 n1, .int .i64 n2, .int .i64 n3, .int .i64 n4, .int .i64 n5, .int .i64 n6, .int .i64 n7, .int .i64 n8, .int .i64 n9, .bool xf, fv, rv, cv, s0, s1, s2, s3] 68)).alloc (.cells #[.slice none 0 0] 95)) [] := by
    have h := WrSB.start (w.alloc (.cells #[.int .i64 n0, .int .i64 n1, .int .i64 n2, .int .i64 n3, .int .i64 n4, .int .i64 n5, .int .i64 n6, .int .i64 n7, .int .i64 n8, .int .i64 n9, .bool xf, fv, rv, cv, s0, s1, s2, s3] 68))
    rw [show (w.alloc (.cells #[.int .i64 n0, .int .i64 n1, .int .i64 n2, .int .i64 n3, .int .i64 n4, .int .i64 n5, .int .i64 n6, .int .i64 n7, .int .i64 n8, .int .i64 n9, .bool xf, fv, rv, cv, s0, s1, s2, s3] 68)).heap.size = w.heap.size + 1 by simp] at h
    exact h
  have hs : w.heap.size + 1 ≤ ((w.alloc (.cells #[.int .i64 n0, .int .i64 n1, .int .i64 n2, .int .i64 n3, .int .i64 n4, .int .i64 n5, .int .i64 n6, .int .i64 n7, .int .i64 n8, .int .i64 n9, .bool xf, fv, rv, cv, s0, s1, s2, s3] 68)).alloc (.cells #[.slice none 0 0] 95)).heap.size := by simp
  go_enter Tryz.func30, Tryz.ntmps30
  go_upto_region 2 with fail
  obtain ⟨V, hV⟩ : ∃ V, V = ((w.alloc (.cells #[.int .i64 n0, .int .i64 n1, .int .i64 n2, .int .i64 n3, .int .i64 n4, .int .i64 n5, .int .i64 n6, .int .i64 n7, .int .i64 n8, .int .i64 n9, .bool xf, fv, rv, cv, s0, s1, s2, s3] 68)).alloc (.cells #[.slice none 0 0] 95)) := ⟨_, rfl⟩
  rw [← hV] at hb HB hw hs ⊢
  clear hV
  refine wp_region_seq0 (by rfl) ?_
  simp only [List.map]
  refine sq_pure (.pointer (some ⟨w.heap.size, 0, none⟩)) (by go_simp) trivial ?_
  simp only [Act.put, List.setIfInBounds_toArray, List.set_cons_zero, List.set_cons_succ]
  refine sq_pure (.int .i64 n0) (by have q := blk_cell hb 0; go_simp) trivial ?_
  simp only [Act.put, List.setIfInBounds_toArray, List.set_cons_zero, List.set_cons_succ]
  refine sq_pure (.pointer (some ⟨w.heap.size, 1, none⟩)) (by go_simp) trivial ?_
  simp only [Act.put, List.setIfInBounds_toArray, List.set_cons_zero, List.set_cons_succ]
  refine sq_pure (.int .i64 n1) (by have q := blk_cell hb 1; go_simp) trivial ?_
  simp only [Act.put, List.setIfInBounds_toArray, List.set_cons_zero, List.set_cons_succ]
  refine sq_pure (.pointer (some ⟨w.heap.size, 2, none⟩)) (by go_simp) trivial ?_
  simp only [Act.put, List.setIfInBounds_toArray, List.set_cons_zero, List.set_cons_succ]
  refine sq_pure (.int .i64 n2) (by have q := blk_cell hb 2; go_simp) trivial ?_
  simp only [Act.put, List.setIfInBounds_toArray, List.set_cons_zero, List.set_cons_succ]
  refine sq_pure (.pointer (some ⟨w.heap.size, 3, none⟩)) (by go_simp) trivial ?_
  simp only [Act.put, List.setIfInBounds_toArray, List.set_cons_zero, List.set_cons_succ]
  refine sq_pure (.int .i64 n3) (by have q := blk_cell hb 3; go_simp) trivial ?_
  simp only [Act.put, List.setIfInBounds_toArray, List.set_cons_zero, List.set_cons_succ]
  refine sq_pure (.pointer (some ⟨w.heap.size, 4, none⟩)) (by go_simp) trivial ?_
  simp only [Act.put, List.setIfInBounds_toArray, List.set_cons_zero, List.set_cons_succ]
  refine sq_pure (.int .i64 n4) (by have q := blk_cell hb 4; go_simp) trivial ?_
  simp only [Act.put, List.setIfInBounds_toArray, List.set_cons_zero, List.set_cons_succ]
  refine sq_pure (.pointer (some ⟨w.heap.size, 5, none⟩)) (by go_simp) trivial ?_
  simp only [Act.put, List.setIfInBounds_toArray, List.set_cons_zero, List.set_cons_succ]
  refine sq_pure (.int .i64 n5) (by have q := blk_cell hb 5; go_simp) trivial ?_
  simp only [Act.put, List.setIfInBounds_toArray, List.set_cons_zero, List.set_cons_succ]
  refine sq_pure (.pointer (some ⟨w.heap.size, 6, none⟩)) (by go_simp) trivial ?_
  simp only [Act.put, List.setIfInBounds_toArray, List.set_cons_zero, List.set_cons_succ]
  refine sq_pure (.int .i64 n6) (by have q := blk_cell hb 6; go_simp) trivial ?_
  simp only [Act.put, List.setIfInBounds_toArray, List.set_cons_zero, List.set_cons_succ]
  refine sq_pure (.pointer (some ⟨w.heap.size, 7, none⟩)) (by go_simp) trivial ?_
  simp only [Act.put, List.setIfInBounds_toArray, List.set_cons_zero, List.set_cons_succ]
  refine sq_pure (.int .i64 n7) (by have q := blk_cell hb 7; go_simp) trivial ?_
  simp only [Act.put, List.setIfInBounds_toArray, List.set_cons_zero, List.set_cons_succ]
  refine sq_pure (.pointer (some ⟨w.heap.size, 8, none⟩)) (by go_simp) trivial ?_
  simp only [Act.put, List.setIfInBounds_toArray, List.set_cons_zero, List.set_cons_succ]
  refine sq_pure (.int .i64 n8) (by have q := blk_cell hb 8; go_simp) trivial ?_
  simp only [Act.put, List.setIfInBounds_toArray, List.set_cons_zero, List.set_cons_succ]
  refine sq_pure (.pointer (some ⟨w.heap.size, 9, none⟩)) (by go_simp) trivial ?_
  simp only [Act.put, List.setIfInBounds_toArray, List.set_cons_zero, List.set_cons_succ]
  refine sq_pure (.int .i64 n9) (by have q := blk_cell hb 9; go_simp) trivial ?_
  simp only [Act.put, List.setIfInBounds_toArray, List.set_cons_zero, List.set_cons_succ]
  refine sq_value (.slice (some ⟨V.heap.size, 0, none⟩) 10 10) (V.alloc (.cells #[.int .i64 n0, .int .i64 n1, .int .i64 n2, .int .i64 n3, .int .i64 n4, .int .i64 n5, .int .i64 n6, .int .i64 n7, .int .i64 n8, .int .i64 n9] 3)) (by go_simp) trivial ?_
  simp only [Act.put, List.setIfInBounds_toArray, List.set_cons_zero, List.set_cons_succ]
  refine sq_call 42 #[.pointer (some ⟨w.heap.size + 1, 0, none⟩), .slice (some ⟨V.heap.size, 0, none⟩) 10 10] (by go_simp) ?_
  refine Calls.mono (number_lit (w.heap.size + 1) (w.heap.size + 1) [n0, n1, n2, n3, n4, n5, n6, n7, n8, n9] [] V hw (by simp) (by simp only [List.mem_cons, List.not_mem_nil, or_false]; rintro m (rfl | rfl | rfl | rfl | rfl | rfl | rfl | rfl | rfl | rfl) <;> assumption) hs (by simp only [List.length_append, List.length_nil] at hz ⊢; omega)) ?_
  rintro e V1 ⟨rfl, hw2, hk⟩
  have hkb := hk.below hw
  replace HB := HB.trans (hkb.mono (by omega))
  replace hb := (hkb.block _ (by omega)).trans hb
  replace hs := Nat.le_trans hs hkb.size
  replace hw := hw2.buf
  clear hk hkb hw2
  refine ⟨_, rfl, trivial, ?_⟩
  simp only [Act.put, List.setIfInBounds_toArray, List.set_cons_zero, List.set_cons_succ]
  refine sq_done ?_
  rw [List.nil_append] at hw
  go_upto_region 3 with fail
  refine wp_region_seq0 (by rfl) ?_
  simp only [List.map]
  refine sq_pure (.pointer (some ⟨w.heap.size, 10, none⟩)) (by go_simp) trivial ?_
  simp only [Act.put, List.setIfInBounds_toArray, List.set_cons_zero, List.set_cons_succ]
  refine sq_pure (.bool xf) (by have q0 := blk_cell hb 10; go_simp) trivial ?_
  simp only [Act.put, List.setIfInBounds_toArray, List.set_cons_zero, List.set_cons_succ]
  refine sq_call 77 #[.pointer (some ⟨w.heap.size + 1, 0, none⟩), .bool xf] (by go_simp) ?_
  refine Calls.mono (boolean_lib (w.heap.size + 1) (w.heap.size + 1) xf ([n0, n1, n2, n3, n4, n5, n6, n7, n8, n9].flatMap encN) V1 hw hs (by simp only [List.length_append, List.length_nil] at hz ⊢; omega)) ?_
  rintro e V2 ⟨rfl, hw2, hk⟩
  have hkb := hk.below hw
  replace HB := HB.trans (hkb.mono (by omega))
  replace hb := (hkb.block _ (by omega)).trans hb
  replace hs := Nat.le_trans hs hkb.size
  replace hw := hw2.buf
  clear hk hkb hw2
  refine ⟨_, rfl, trivial, ?_⟩
  simp only [Act.put, List.setIfInBounds_toArray, List.set_cons_zero, List.set_cons_succ]
  refine sq_done ?_
  go_upto_region 4 with fail
  refine wp_region_seq0 (by rfl) ?_
  simp only [List.map]
  refine sq_pure (.pointer (some ⟨w.heap.size, 11, none⟩)) (by go_simp) trivial ?_
  simp only [Act.put, List.setIfInBounds_toArray, List.set_cons_zero, List.set_cons_succ]
  refine sq_pure (fv) (by have q0 := blk_cell hb 11; go_simp) trivial ?_
  simp only [Act.put, List.setIfInBounds_toArray, List.set_cons_zero, List.set_cons_succ]
  refine sq_call 53 #[.pointer (some ⟨w.heap.size + 1, 0, none⟩), fv] (by go_simp) ?_
  refine Calls.mono (w_items n (w.heap.size + 1) (w.heap.size + 1) ([n0, n1, n2, n3, n4, n5, n6, n7, n8, n9].flatMap encN ++ flagE xf) G V2 fv xi hw (fun b h => Nat.lt_succ_of_lt (hG b h)) hs (h1.below (stb_it n) hG HB) (by simp only [List.length_append, List.length_nil] at hz ⊢; omega)) ?_
  rintro e V3 ⟨rfl, hw2, hk⟩
  have hkb := hk.below hw
  replace HB := HB.trans (hkb.mono (by omega))
  replace hb := (hkb.block _ (by omega)).trans hb
  replace hs := Nat.le_trans hs hkb.size
  replace hw := hw2.buf
  clear hk hkb hw2
  refine ⟨_, rfl, trivial, ?_⟩
  simp only [Act.put, List.setIfInBounds_toArray, List.set_cons_zero, List.set_cons_succ]
  refine sq_done ?_
  go_upto_region 5 with fail
  refine wp_region_seq0 (by rfl) ?_
  simp only [List.map]
  refine sq_pure (.pointer (some ⟨w.heap.size, 12, none⟩)) (by go_simp) trivial ?_
  simp only [Act.put, List.setIfInBounds_toArray, List.set_cons_zero, List.set_cons_succ]
  refine sq_pure (rv) (by have q0 := blk_cell hb 12; go_simp) trivial ?_
  simp only [Act.put, List.setIfInBounds_toArray, List.set_cons_zero, List.set_cons_succ]
  refine sq_call 78 #[.pointer (some ⟨w.heap.size + 1, 0, none⟩), rv] (by go_simp) ?_
  refine Calls.mono (w_rows (itP n) (itE n) (stb_it n) (w_items n) (w.heap.size + 1) (w.heap.size + 1) ([n0, n1, n2, n3, n4, n5, n6, n7, n8, n9].flatMap encN ++ flagE xf ++ listE (itE n) xi) G V3 rv xr hw (fun b h => Nat.lt_succ_of_lt (hG b h)) hs (h2.below (stb_rw (stb_it n)) hG HB) (by simp only [List.length_append, List.length_nil] at hz ⊢; omega)) ?_
  rintro e V4 ⟨rfl, hw2, hk⟩
  have hkb := hk.below hw
  replace HB := HB.trans (hkb.mono (by omega))
  replace hb := (hkb.block _ (by omega)).trans hb
  replace hs := Nat.le_trans hs hkb.size
  replace hw := hw2.buf
  clear hk hkb hw2
  refine ⟨_, rfl, trivial, ?_⟩
  simp only [Act.put, List.setIfInBounds_toArray, List.set_cons_zero, List.set_cons_succ]
  refine sq_done ?_
  go_upto_region 6 with fail
  refine wp_region_seq0 (by rfl) ?_
  simp only [List.map]
  refine sq_pure (.pointer (some ⟨w.heap.size, 13, none⟩)) (by go_simp) trivial ?_
  simp only [Act.put, List.setIfInBounds_toArray, List.set_cons_zero, List.set_cons_succ]
  refine sq_pure (cv) (by have q0 := blk_cell hb 13; go_simp) trivial ?_
  simp only [Act.put, List.setIfInBounds_toArray, List.set_cons_zero, List.set_cons_succ]
  refine sq_call 79 #[.pointer (some ⟨w.heap.size + 1, 0, none⟩), cv] (by go_simp) ?_
  refine Calls.mono (w_cells (itP n) (itE n) (stb_it n) (w_items n) (w.heap.size + 1) (w.heap.size + 1) ([n0, n1, n2, n3, n4, n5, n6, n7, n8, n9].flatMap encN ++ flagE xf ++ listE (itE n) xi ++ listE (rwE (itE n)) xr) G V4 cv xc hw (fun b h => Nat.lt_succ_of_lt (hG b h)) hs (h3.below (stb_ce (stb_it n)) hG HB) (by simp only [List.length_append, List.length_nil] at hz ⊢; omega)) ?_
  rintro e V5 ⟨rfl, hw2, hk⟩
  have hkb := hk.below hw
  replace HB := HB.trans (hkb.mono (by omega))
  replace hb := (hkb.block _ (by omega)).trans hb
  replace hs := Nat.le_trans hs hkb.size
  replace hw := hw2.buf
  clear hk hkb hw2
  refine ⟨_, rfl, trivial, ?_⟩
  simp only [Act.put, List.setIfInBounds_toArray, List.set_cons_zero, List.set_cons_succ]
  refine sq_done ?_
  go_upto_region 7 with fail
  refine wp_region_seq0 (by rfl) ?_
  simp only [List.map]
  refine sq_pure (.pointer (some ⟨w.heap.size, 14, none⟩)) (by go_simp) trivial ?_
  simp only [Act.put, List.setIfInBounds_toArray, List.set_cons_zero, List.set_cons_succ]
  refine sq_pure (.agg #[s0, s1, s2, s3]) (by have q0 := blk_cell hb 14; have q1 := blk_cell hb 15; have q2 := blk_cell hb 16; have q3 := blk_cell hb 17; go_simp) trivial ?_
  simp only [Act.put, List.setIfInBounds_toArray, List.set_cons_zero, List.set_cons_succ]
  refine sq_call 56 #[.pointer (some ⟨w.heap.size + 1, 0, none⟩), .agg #[s0, s1, s2, s3]] (by go_simp) ?_
  refine Calls.mono (w_settings (w.heap.size + 1) (w.heap.size + 1) ([n0, n1, n2, n3, n4, n5, n6, n7, n8, n9].flatMap encN ++ flagE xf ++ listE (itE n) xi ++ listE (rwE (itE n)) xr ++ listE (ceE (itE n)) xc) G V5 _ xs hw (fun b h => Nat.lt_succ_of_lt (hG b h)) hs (Rp.below stb_stg h4 hG HB) (by simp only [List.length_append, List.length_nil] at hz ⊢; omega)) ?_
  rintro e V6 ⟨rfl, hw2, hk⟩
  have hkb := hk.below hw
  replace HB := HB.trans (hkb.mono (by omega))
  replace hb := (hkb.block _ (by omega)).trans hb
  replace hs := Nat.le_trans hs hkb.size
  replace hw := hw2.buf
  refine ⟨_, rfl, trivial, ?_⟩
  simp only [Act.put, List.setIfInBounds_toArray, List.set_cons_zero, List.set_cons_succ]
  refine sq_done ?_
  obtain ⟨v, cz, kz⟩ := conv_wr hw2 hne hby
  rw [← hRR] at kz
  have HBh := Lib.hid HB
  clear hw hw2 hk hkb hb hz hne hby hs HB hRR
  go_wp2_with fail
  go_ret
  exact ⟨rfl, HBh.out⟩
end Go.Proofs.YtmhhcfceikcfbaaGreat
