/- Walk: the law on splices. -/
import Derived.Test.YtmhhcfceikcfbaaGreatSm2
import Derived.Test.YtmhhcfceikcfbaaGreatT3
import Derived.Test.YtmhhcfceikcfbaaGreatF1
import Derived.Test.YtmhhcfceikcfbaaGreatSq4
namespace Go.Proofs.YtmhhcfceikcfbaaGreat
open Go.RowKit


set_option maxRecDepth 100000 in
set_option maxHeartbeats 4000000 in
theorem splices_any (n : Nat) (G : Nat → Prop) (w : World) (vs : List Value) (x : Sp n) (hR : spP n w G vs x) (hG : ∀ b, G b → b < w.heap.size) (hz : (spE n x).length ≤ 10485760) (hn : 10485760 < n) : Calls Tryz.prog 8 #[.agg vs.toArray] w (TrueC w) := by
  have hdom := dom_sp n _ _ _ _ hR
  have hR0 := hR
  obtain ⟨va, vb, rfl, hla, _, ta, tb⟩ := hR
  obtain ⟨a0, a1, a2, a3, a4, a5, a6, a7, a8, a9, a10, a11, rfl⟩ := len_12 hla
  obtain ⟨b0, b1, b2, b3, b4, b5, b6, b7, b8, b9, b10, b11, rfl⟩ := len_12 (pc_len tb)
  obtain ⟨k0, k1, k2, k3, z1, z2⟩ := x
  obtain ⟨N0, hN0⟩ : ∃ N, N = w.heap.size := ⟨_, rfl⟩
  have hb0 : (w.alloc (.cells #[.int .i64 k0, .int .i64 k1, .int .i64 k2, .int .i64 k3, a0, a1, a2, a3, a4, a5, a6, a7, a8, a9, a10, a11, b0, b1, b2, b3, b4, b5, b6, b7, b8, b9, b10, b11] 77)).heap[N0]? = some (.cells #[.int .i64 k0, .int .i64 k1, .int .i64 k2, .int .i64 k3, a0, a1, a2, a3, a4, a5, a6, a7, a8, a9, a10, a11, b0, b1, b2, b3, b4, b5, b6, b7, b8, b9, b10, b11] 77 (0, 0)) := by rw [hN0]; exact heap_alloc_new w _
  have hB0 : Below N0 w (w.alloc (.cells #[.int .i64 k0, .int .i64 k1, .int .i64 k2, .int .i64 k3, a0, a1, a2, a3, a4, a5, a6, a7, a8, a9, a10, a11, b0, b1, b2, b3, b4, b5, b6, b7, b8, b9, b10, b11] 77)) := by rw [hN0]; exact (Below.refl _ _).alloc (Nat.le_refl _) _
  obtain ⟨W, hW⟩ : ∃ W, W = w.alloc (.cells #[.int .i64 k0, .int .i64 k1, .int .i64 k2, .int .i64 k3, a0, a1, a2, a3, a4, a5, a6, a7, a8, a9, a10, a11, b0, b1, b2, b3, b4, b5, b6, b7, b8, b9, b10, b11] 77) := ⟨_, rfl⟩
  have hWs : W.heap.size = N0 + 1 := by rw [hW, hN0]; simp
  have HW := Lib.hid hW
  rw [← hW] at hb0 hB0
  have Hb := Lib.hid hb0
  have HB := Lib.hid hB0
  have HR := Lib.hid hR0
  have TA := Lib.hid ta
  have TB := Lib.hid tb
  have HD := Lib.hid hdom
  have HG := Lib.hid hG
  have HN0 := Lib.hid hN0
  clear hW hb0 hB0 hR0 ta tb hdom hG hN0
  go_enter Tryz.func8, Tryz.ntmps8
  go_upto_region 1 with fail
  rw [← HW.out]
  rw [← HN0.out]
  clear HW
  go_wp2_with fail
  refine (known15 _).mono ?_
  rintro e w1 ⟨rfl, hb1⟩
  replace HB := Lib.hid (HB.out.trans (hb1.mono (by omega)))
  have Hb1 := Lib.hid ((hb1.block _ (by omega)).trans Hb.out)
  have hs1 : N0 + 1 ≤ w1.heap.size := by have := hb1.size; omega
  clear hb1 Hb
  have q0 := blk_cell Hb1.out 4
  have q1 := blk_cell Hb1.out 5
  have q2 := blk_cell Hb1.out 6
  have q3 := blk_cell Hb1.out 7
  have q4 := blk_cell Hb1.out 8
  have q5 := blk_cell Hb1.out 9
  have q6 := blk_cell Hb1.out 10
  have q7 := blk_cell Hb1.out 11
  have q8 := blk_cell Hb1.out 12
  have q9 := blk_cell Hb1.out 13
  have q10 := blk_cell Hb1.out 14
  have q11 := blk_cell Hb1.out 15
  have C := Lib.hid (smallPiece33 n _ w1 _ z1 (Rp.below (stb_pc n) TA.out HG.out (by rw [← HN0.out]; exact HB.out)) (fun b h => by have := HG.out b h; have := HN0.out; omega))
  go_wp2_with fail
  refine C.out.mono ?_
  rintro e w2 ⟨b1, rfl, hb2⟩
  replace HB := Lib.hid (HB.out.trans (hb2.mono (by omega)))
  have Hb2 := Lib.hid ((hb2.block _ (by omega)).trans Hb1.out)
  have hs2 : N0 + 1 ≤ w2.heap.size := by have := hb2.size; omega
  clear hb2 Hb1 C hs1 q0 q1 q2 q3 q4 q5 q6 q7 q8 q9 q10 q11
  cases b1
  · go_wp2_with fail
    refine (known15 _).mono ?_
    rintro e wk ⟨rfl, hbk⟩
    have HBk := Lib.hid (HB.out.trans (hbk.mono (by omega)))
    clear hbk Hb2
    go_wp2_with fail
    go_ret
    have hh := HBk.out
    rw [HN0.out] at hh
    exact ⟨rfl, hh⟩
  · have q0 := blk_cell Hb2.out 16
    have q1 := blk_cell Hb2.out 17
    have q2 := blk_cell Hb2.out 18
    have q3 := blk_cell Hb2.out 19
    have q4 := blk_cell Hb2.out 20
    have q5 := blk_cell Hb2.out 21
    have q6 := blk_cell Hb2.out 22
    have q7 := blk_cell Hb2.out 23
    have q8 := blk_cell Hb2.out 24
    have q9 := blk_cell Hb2.out 25
    have q10 := blk_cell Hb2.out 26
    have q11 := blk_cell Hb2.out 27
    have C := Lib.hid (smallPiece33 n _ w2 _ z2 (Rp.below (stb_pc n) TB.out HG.out (by rw [← HN0.out]; exact HB.out)) (fun b h => by have := HG.out b h; have := HN0.out; omega))
    go_wp2_with fail
    refine C.out.mono ?_
    rintro e w3 ⟨b2, rfl, hb3⟩
    replace HB := Lib.hid (HB.out.trans (hb3.mono (by omega)))
    have Hb3 := Lib.hid ((hb3.block _ (by omega)).trans Hb2.out)
    have hs3 : N0 + 1 ≤ w3.heap.size := by have := hb3.size; omega
    clear hb3 Hb2 C hs2 q0 q1 q2 q3 q4 q5 q6 q7 q8 q9 q10 q11
    cases b2
    · go_wp2_with fail
      refine (known15 _).mono ?_
      rintro e wk ⟨rfl, hbk⟩
      have HBk := Lib.hid (HB.out.trans (hbk.mono (by omega)))
      clear hbk Hb3
      go_wp2_with fail
      go_ret
      have hh := HBk.out
      rw [HN0.out] at hh
      exact ⟨rfl, hh⟩
    · obtain ⟨x, hx⟩ : ∃ x : Sp n, x = (k0, k1, k2, k3, z1, z2) := ⟨_, rfl⟩
      have HRx : Hid (spP n w G [.int .i64 k0, .int .i64 k1, .int .i64 k2, .int .i64 k3, a0, a1, a2, a3, a4, a5, a6, a7, a8, a9, a10, a11, b0, b1, b2, b3, b4, b5, b6, b7, b8, b9, b10, b11] x) := Lib.hid (by rw [hx]; exact HR.out)
      have HDx : Hid (spD n x) := Lib.hid (by rw [hx]; exact HD.out)
      have hzx : (spE n x).length ≤ 10485760 := by rw [hx]; exact hz
      obtain ⟨S, hS⟩ : ∃ S, S = mkB (spE n x) := ⟨_, rfl⟩
      have hSz : S.size ≤ 10485760 := by rw [hS, mkB_size]; exact hzx
      have HZx := Lib.hid hzx
      have HS := Lib.hid hS
      have HBW := Lib.hid (back_whole (fit_spD n) (byt_sp n) HDx.out)
      rw [← hS] at HBW
      clear hx hz HR HD TA TB hS hzx HDx
      have C34 : Hid (∀ W, Below N0 w W → Calls Tryz.prog 34 #[.agg #[.int .i64 k0, .int .i64 k1, .int .i64 k2, .int .i64 k3, a0, a1, a2, a3, a4, a5, a6, a7, a8, a9, a10, a11, b0, b1, b2, b3, b4, b5, b6, b7, b8, b9, b10, b11]] W (fun e w' => e = .returned (.string S) ∧ Below W.heap.size W w')) := Lib.hid (fun W hW => by
        rw [HS.out]
        exact EncSplice34 n G W [.int .i64 k0, .int .i64 k1, .int .i64 k2, .int .i64 k3, a0, a1, a2, a3, a4, a5, a6, a7, a8, a9, a10, a11, b0, b1, b2, b3, b4, b5, b6, b7, b8, b9, b10, b11] x (Rp.below (stb_sp n) HRx.out HG.out (by rw [← HN0.out]; exact hW)) (fun b h => Nat.lt_of_lt_of_le (HG.out b h) hW.size) (by have := HZx.out; omega))
      have C36 : Hid (∀ W, Below N0 w W → Calls Tryz.prog 36 #[.agg #[.int .i64 k0, .int .i64 k1, .int .i64 k2, .int .i64 k3, a0, a1, a2, a3, a4, a5, a6, a7, a8, a9, a10, a11, b0, b1, b2, b3, b4, b5, b6, b7, b8, b9, b10, b11]] W (fun e w' => e = .returned (.string S) ∧ Below W.heap.size W w')) := Lib.hid (fun W hW => by
        rw [HS.out]
        exact str_splice n G W [.int .i64 k0, .int .i64 k1, .int .i64 k2, .int .i64 k3, a0, a1, a2, a3, a4, a5, a6, a7, a8, a9, a10, a11, b0, b1, b2, b3, b4, b5, b6, b7, b8, b9, b10, b11] x (Rp.below (stb_sp n) HRx.out HG.out (by rw [← HN0.out]; exact hW)) (fun b h => Nat.lt_of_lt_of_le (HG.out b h) hW.size) (by have := HZx.out; omega))
      go_upto_region 3 with fail
      refine wp_region_seq0 (by rfl) ?_
      simp only [List.map]
      refine sq_load_row 77 _ rfl N0 77 #[.int .i64 k0, .int .i64 k1, .int .i64 k2, .int .i64 k3, a0, a1, a2, a3, a4, a5, a6, a7, a8, a9, a10, a11, b0, b1, b2, b3, b4, b5, b6, b7, b8, b9, b10, b11] _ rfl Hb3.out Tryz.underlying77 rfl size77 trivial ?_
      simp only [Act.put, List.setIfInBounds_toArray, List.set_cons_zero, List.set_cons_succ]
      refine sq_call 34 #[.agg #[.int .i64 k0, .int .i64 k1, .int .i64 k2, .int .i64 k3, a0, a1, a2, a3, a4, a5, a6, a7, a8, a9, a10, a11, b0, b1, b2, b3, b4, b5, b6, b7, b8, b9, b10, b11]] (by go_simp) ?_
      refine Calls.mono (C34.out _ HB.out) ?_
      rintro e w4 ⟨rfl, hb4⟩
      replace HB := Lib.hid (HB.out.trans (hb4.mono (by omega)))
      have Hb4 := Lib.hid ((hb4.block _ (by omega)).trans Hb3.out)
      have hs4 : N0 + 1 ≤ w4.heap.size := by have := hb4.size; omega
      clear hb4 Hb3 C34 hs3
      refine ⟨_, rfl, trivial, ?_⟩
      simp only [Act.put, List.setIfInBounds_toArray, List.set_cons_zero, List.set_cons_succ]
      refine sq_pure (.string S) (by go_simp) trivial ?_
      simp only [Act.put, List.setIfInBounds_toArray, List.set_cons_zero, List.set_cons_succ]
      refine sq_done ?_
      go_upto_region 4 with fail
      refine wp_region_seq0 (by rfl) ?_
      simp only [List.map]
      refine sq_pure (.string S) (by go_simp) trivial ?_
      simp only [Act.put, List.setIfInBounds_toArray, List.set_cons_zero, List.set_cons_succ]
      refine sq_call 35 #[.string S] (by go_simp) ?_
      refine Calls.mono (Dec35 n S w4 (by omega) (by omega)) ?_
      rintro e w5 ⟨hb5, vs2, x2, rfl, hR2, ho2, _, hk2⟩
      obtain ⟨hbw1, hbw2⟩ := HBW.out
      rw [hbw2]
      obtain rfl : x2 = x := ok_same hbw1 (hk2 hbw2)
      clear hk2 hbw1 hbw2 HBW
      have hl2 := sp_len hR2
      replace HB := Lib.hid (HB.out.trans (hb5.mono (by omega)))
      have Hb5 := Lib.hid ((hb5.block _ (by omega)).trans Hb4.out)
      have hs5 : N0 + 1 ≤ w5.heap.size := by have := hb5.size; omega
      clear hb5 Hb4
      refine ⟨_, rfl, trivial, ?_⟩
      simp only [Act.put, List.setIfInBounds_toArray, List.set_cons_zero, List.set_cons_succ]
      refine sq_pure (.tuple #[.agg (List.toArray vs2), .int .i64 0]) (by go_simp) trivial ?_
      simp only [Act.put, List.setIfInBounds_toArray, List.set_cons_zero, List.set_cons_succ]
      refine sq_pure (.agg (List.toArray vs2)) (by go_simp) trivial ?_
      simp only [Act.put, List.setIfInBounds_toArray, List.set_cons_zero, List.set_cons_succ]
      refine sq_pure (.int .i64 0) (by go_simp) trivial ?_
      simp only [Act.put, List.setIfInBounds_toArray, List.set_cons_zero, List.set_cons_succ]
      obtain ⟨M, hM⟩ : ∃ M, M = w5.heap.size := ⟨_, rfl⟩
      have HM := Lib.hid hM
      clear hM
      refine sq_value (.pointer (some ⟨w5.heap.size, 0, none⟩)) (w5.alloc (.cells #[.int .i64 0, .int .i64 0, .int .i64 0, .int .i64 0, .slice none 0 0, .slice none 0 0, .slice none 0 0, .slice none 0 0, .int .i64 0, .int .i64 0, .slice none 0 0, .slice none 0 0, .slice none 0 0, .slice none 0 0, .slice none 0 0, .slice none 0 0, .slice none 0 0, .slice none 0 0, .slice none 0 0, .slice none 0 0, .int .i64 0, .int .i64 0, .slice none 0 0, .slice none 0 0, .slice none 0 0, .slice none 0 0, .slice none 0 0, .slice none 0 0] 77)) (by go_simp) trivial ?_
      simp only [Act.put, List.setIfInBounds_toArray, List.set_cons_zero, List.set_cons_succ]
      refine sq_store_row 77 _ _ rfl rfl w5.heap.size 77 #[.int .i64 0, .int .i64 0, .int .i64 0, .int .i64 0, .slice none 0 0, .slice none 0 0, .slice none 0 0, .slice none 0 0, .int .i64 0, .int .i64 0, .slice none 0 0, .slice none 0 0, .slice none 0 0, .slice none 0 0, .slice none 0 0, .slice none 0 0, .slice none 0 0, .slice none 0 0, .slice none 0 0, .slice none 0 0, .int .i64 0, .int .i64 0, .slice none 0 0, .slice none 0 0, .slice none 0 0, .slice none 0 0, .slice none 0 0, .slice none 0 0] vs2 rfl rfl (heap_alloc_new w5 _) (by rw [hl2]; exact size77) ho2 (by rw [hl2]; rfl) ?_
      intro w6 hb6 hg
      have hq := below_new (Nat.le_refl _) _ hg
      clear hg
      replace HB := Lib.hid (HB.out.trans (hq.mono (by omega)))
      have Hb6 := Lib.hid ((hq.block _ (by omega)).trans Hb5.out)
      have hs6 : N0 + 1 ≤ w6.heap.size := by have := hq.size; omega
      have hR6 := Rp.below (stb_sp n) hR2 (fun b hb => hb.2) hq
      have hg6 : w5.heap.size < w6.heap.size := lt_of_blk hb6
      rw [← HM.out] at hb6 hg6 ⊢
      clear hq hR2 Hb5 hs5 hs4
      refine ⟨trivial, ?_⟩
      refine sq_pure (.int .i64 0) (by go_simp) trivial ?_
      simp only [Act.put, List.setIfInBounds_toArray, List.set_cons_zero, List.set_cons_succ]
      refine sq_done ?_
      have C37 : Hid (∀ W, Below w6.heap.size w6 W → Calls Tryz.prog 36 #[.agg (List.toArray vs2)] W (fun e w' => e = .returned (.string S) ∧ Below W.heap.size W w')) := Lib.hid (fun W hW => by
        rw [HS.out]
        exact str_splice n _ W vs2 x2 (rep_below (N := w4.heap.size) (M := w5.heap.size) (stb_sp n) hR6 hW (by rw [← HM.out]; omega)) (fun b hb => by have := hb.2; have := hW.size; have := HM.out; omega) (by have := HZx.out; omega))
      have Hg6 := Lib.hid hb6
      clear hR6 ho2 hb6 HRx HZx HS HG
      go_upto_region 5 with fail
      refine wp_region_guard0 ?_
      simp only [List.map]
      refine hd_run rfl ?_
      refine sq_pure (.string S) (by go_simp) trivial ?_
      refine sq_done ?_
      simp only [Act.put, List.setIfInBounds_toArray, List.set_cons_zero, List.set_cons_succ]
      refine hd_run rfl ?_
      refine sq_load_row 77 _ rfl N0 77 #[.int .i64 k0, .int .i64 k1, .int .i64 k2, .int .i64 k3, a0, a1, a2, a3, a4, a5, a6, a7, a8, a9, a10, a11, b0, b1, b2, b3, b4, b5, b6, b7, b8, b9, b10, b11] _ rfl Hb6.out Tryz.underlying77 rfl size77 trivial ?_
      refine sq_done ?_
      simp only [Act.put, List.setIfInBounds_toArray, List.set_cons_zero, List.set_cons_succ]
      refine hd_run rfl ?_
      refine sq_call 36 #[.agg #[.int .i64 k0, .int .i64 k1, .int .i64 k2, .int .i64 k3, a0, a1, a2, a3, a4, a5, a6, a7, a8, a9, a10, a11, b0, b1, b2, b3, b4, b5, b6, b7, b8, b9, b10, b11]] (by go_simp) ?_
      refine Calls.mono (C36.out _ HB.out) ?_
      rintro e w7 ⟨rfl, hb7⟩
      replace HB := Lib.hid (HB.out.trans (hb7.mono (by omega)))
      have Hg7 := Lib.hid ((hb7.block _ hg6).trans Hg6.out)
      have C := Lib.hid (C37.out w7 hb7)
      have hs7 : N0 + 1 ≤ w7.heap.size := by have := hb7.size; omega
      clear Hb6 Hg6 C36 C37 hb7
      refine ⟨_, rfl, trivial, ?_⟩
      refine sq_done ?_
      simp only [Act.put, List.setIfInBounds_toArray, List.set_cons_zero, List.set_cons_succ]
      refine hd_run rfl ?_
      refine sq_pure (.bool true) (by go_simp) trivial ?_
      refine sq_done ?_
      simp only [Act.put, List.setIfInBounds_toArray, List.set_cons_zero, List.set_cons_succ]
      refine hd_run rfl ?_
      refine sq_pure (.bool true) (by go_simp) trivial ?_
      refine sq_done ?_
      simp only [Act.put, List.setIfInBounds_toArray, List.set_cons_zero, List.set_cons_succ]
      refine hd_run rfl ?_
      refine sq_pure (.int .i64 0) (by go_simp) trivial ?_
      refine sq_done ?_
      simp only [Act.put, List.setIfInBounds_toArray, List.set_cons_zero, List.set_cons_succ]
      refine hd_run rfl ?_
      refine sq_pure (.bool true) (by go_simp) trivial ?_
      refine sq_done ?_
      simp only [Act.put, List.setIfInBounds_toArray, List.set_cons_zero, List.set_cons_succ]
      refine hd_run rfl ?_
      refine sq_pure (.bool true) (by go_simp) trivial ?_
      refine sq_done ?_
      simp only [Act.put, List.setIfInBounds_toArray, List.set_cons_zero, List.set_cons_succ]
      refine hd_run rfl ?_
      refine sq_pure (.bool true) (by go_simp) trivial ?_
      refine sq_done ?_
      simp only [Act.put, List.setIfInBounds_toArray, List.set_cons_zero, List.set_cons_succ]
      refine hd_run rfl ?_
      refine sq_load_row 77 _ rfl M 77 vs2.toArray _ rfl Hg7.out Tryz.underlying77 rfl (by rw [List.size_toArray, hl2]; exact size77) trivial ?_
      refine sq_done ?_
      simp only [Act.put, List.setIfInBounds_toArray, List.set_cons_zero, List.set_cons_succ]
      refine hd_run rfl ?_
      refine sq_call 36 #[.agg (List.toArray vs2)] (by go_simp) ?_
      refine Calls.mono C.out ?_
      rintro e w8 ⟨rfl, hb8⟩
      replace HB := Lib.hid (HB.out.trans (hb8.mono (by omega)))
      clear C hb8 Hg7
      refine ⟨_, rfl, trivial, ?_⟩
      refine sq_done ?_
      simp only [Act.put, List.setIfInBounds_toArray, List.set_cons_zero, List.set_cons_succ]
      refine hd_run rfl ?_
      refine sq_pure (.string S) (by go_simp) trivial ?_
      refine sq_done ?_
      simp only [Act.put, List.setIfInBounds_toArray, List.set_cons_zero, List.set_cons_succ]
      refine hd_run rfl ?_
      refine sq_pure (.bool true) (by go_simp) trivial ?_
      refine sq_done ?_
      simp only [Act.put, List.setIfInBounds_toArray, List.set_cons_zero, List.set_cons_succ]
      refine hd_run rfl ?_
      refine sq_pure (.bool true) (by go_simp) trivial ?_
      refine sq_done ?_
      simp only [Act.put, List.setIfInBounds_toArray, List.set_cons_zero, List.set_cons_succ]
      refine hd_run rfl ?_
      refine sq_pure (.bool true) (by go_simp) trivial ?_
      refine sq_done ?_
      simp only [Act.put, List.setIfInBounds_toArray, List.set_cons_zero, List.set_cons_succ]
      refine NoPanic.normal (NoPanic.normal ?_)
      go_wp2_with fail
      go_ret
      have hh := HB.out
      rw [HN0.out] at hh
      exact ⟨rfl, hh⟩
end Go.Proofs.YtmhhcfceikcfbaaGreat
