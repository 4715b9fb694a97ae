/- Walk: the law on edits. -/
import Derived.Test.YtmhhcfceikcfbaaGreatSm1
import Derived.Test.YtmhhcfceikcfbaaGreatT3
import Derived.Test.YtmhhcfceikcfbaaGreatF1
import Derived.Test.YtmhhcfceikcfbaaGreatSq
namespace Go.Proofs.YtmhhcfceikcfbaaGreat
open Go.RowKit


set_option maxRecDepth 100000 in
set_option maxHeartbeats 4000000 in
theorem edits_any (n : Nat) (G : Nat → Prop) (w : World) (vs : List Value) (x : Ed n) (hR : edP n w G vs x) (hG : ∀ b, G b → b < w.heap.size) (hz : (edE n x).length ≤ 10485760) (hn : 10485760 < n) : Calls Tryz.prog 7 #[.agg vs.toArray] w (TrueC w) := by
  have hdom := dom_ed n _ _ _ _ hR
  obtain ⟨kn, kb, z1, z2, z3, z4⟩ := x
  have hR0 := hR
  obtain ⟨fv, rv, cv, s0, s1, s2, s3, rfl, ⟨hlk, _⟩, h1, h2, h3, h4⟩ := hR
  obtain ⟨k0, k1, k2, k3, k4, k5, k6, k7, k8, k9, rfl⟩ := len_10 hlk
  change edP n w G [.int .i64 k0, .int .i64 k1, .int .i64 k2, .int .i64 k3, .int .i64 k4, .int .i64 k5, .int .i64 k6, .int .i64 k7, .int .i64 k8, .int .i64 k9, .bool kb, fv, rv, cv, s0, s1, s2, s3] _ at hR0
  show Calls Tryz.prog 7 #[.agg #[.int .i64 k0, .int .i64 k1, .int .i64 k2, .int .i64 k3, .int .i64 k4, .int .i64 k5, .int .i64 k6, .int .i64 k7, .int .i64 k8, .int .i64 k9, .bool kb, fv, rv, cv, s0, s1, s2, s3]] w (TrueC w)
  obtain ⟨N0, hN0⟩ : ∃ N, N = w.heap.size := ⟨_, rfl⟩
  have hb0 : (w.alloc (.cells #[.int .i64 k0, .int .i64 k1, .int .i64 k2, .int .i64 k3, .int .i64 k4, .int .i64 k5, .int .i64 k6, .int .i64 k7, .int .i64 k8, .int .i64 k9, .bool kb, fv, rv, cv, s0, s1, s2, s3] 68)).heap[N0]? = some (.cells #[.int .i64 k0, .int .i64 k1, .int .i64 k2, .int .i64 k3, .int .i64 k4, .int .i64 k5, .int .i64 k6, .int .i64 k7, .int .i64 k8, .int .i64 k9, .bool kb, fv, rv, cv, s0, s1, s2, s3] 68 (0, 0)) := by rw [hN0]; exact heap_alloc_new w _
  have hB0 : Below N0 w (w.alloc (.cells #[.int .i64 k0, .int .i64 k1, .int .i64 k2, .int .i64 k3, .int .i64 k4, .int .i64 k5, .int .i64 k6, .int .i64 k7, .int .i64 k8, .int .i64 k9, .bool kb, fv, rv, cv, s0, s1, s2, s3] 68)) := by rw [hN0]; exact (Below.refl _ _).alloc (Nat.le_refl _) _
  obtain ⟨W, hW⟩ : ∃ W, W = w.alloc (.cells #[.int .i64 k0, .int .i64 k1, .int .i64 k2, .int .i64 k3, .int .i64 k4, .int .i64 k5, .int .i64 k6, .int .i64 k7, .int .i64 k8, .int .i64 k9, .bool kb, fv, rv, cv, s0, s1, s2, s3] 68) := ⟨_, rfl⟩
  have hWs : W.heap.size = N0 + 1 := by rw [hW, hN0]; simp
  have HW := Lib.hid hW
  rw [← hW] at hb0 hB0
  have Hb := Lib.hid hb0
  have HB := Lib.hid hB0
  have HR := Lib.hid hR0
  have H1 := Lib.hid h1
  have H2 := Lib.hid h2
  have H3 := Lib.hid h3
  have H4 := Lib.hid h4
  have HD := Lib.hid hdom
  have HG := Lib.hid hG
  have HN0 := Lib.hid hN0
  clear hW hb0 hB0 hR0 h1 h2 h3 h4 hdom hG hN0 hlk
  go_enter Tryz.func7, Tryz.ntmps7
  go_upto_region 1 with fail
  rw [← HW.out]
  rw [← HN0.out]
  clear HW
  go_wp2_with fail
  refine (known15 _).mono ?_
  rintro e w1 ⟨rfl, hb1⟩
  replace HB := Lib.hid (HB.out.trans (hb1.mono (by omega)))
  have Hb1 := Lib.hid ((hb1.block _ (by omega)).trans Hb.out)
  have hs1 : N0 + 1 ≤ w1.heap.size := by have := hb1.size; omega
  clear hb1 Hb
  have q11 := blk_cell Hb1.out 11
  have q12 := blk_cell Hb1.out 12
  have q13 := blk_cell Hb1.out 13
  have HB' : Hid (Below w.heap.size w w1) := Lib.hid (by rw [← HN0.out]; exact HB.out)
  have C := Lib.hid (small29 n G w1 _ _ _ _ _ _ (H1.out.below (stb_it n) HG.out HB'.out) (H2.out.below (stb_rw (stb_it n)) HG.out HB'.out) (H3.out.below (stb_ce (stb_it n)) HG.out HB'.out) (fun b h => by have := HG.out b h; have := HN0.out; omega))
  clear HB'
  go_wp2_with fail
  refine C.out.mono ?_
  rintro e w2 ⟨b1, rfl, hb2⟩
  replace HB := Lib.hid (HB.out.trans (hb2.mono (by omega)))
  have Hb2 := Lib.hid ((hb2.block _ (by omega)).trans Hb1.out)
  have hs2 : N0 + 1 ≤ w2.heap.size := by have := hb2.size; omega
  clear hb2 Hb1 C hs1 q11 q12 q13
  cases b1
  · go_wp2_with fail
    refine (known15 _).mono ?_
    rintro e wk ⟨rfl, hbk⟩
    have HBk := Lib.hid (HB.out.trans (hbk.mono (by omega)))
    clear hbk Hb2
    go_wp2_with fail
    go_ret
    have hh := HBk.out
    rw [HN0.out] at hh
    exact ⟨rfl, hh⟩
  · have q14 := blk_cell Hb2.out 14
    have q15 := blk_cell Hb2.out 15
    have q16 := blk_cell Hb2.out 16
    have q17 := blk_cell Hb2.out 17
    have C := Lib.hid (few19 G w2 _ _ (Rp.below stb_stg H4.out HG.out (by rw [← HN0.out]; exact HB.out)) (fun b h => by have := HG.out b h; have := HN0.out; omega))
    go_wp2_with fail
    refine C.out.mono ?_
    rintro e w3 ⟨b2, rfl, hb3⟩
    replace HB := Lib.hid (HB.out.trans (hb3.mono (by omega)))
    have Hb3 := Lib.hid ((hb3.block _ (by omega)).trans Hb2.out)
    have hs3 : N0 + 1 ≤ w3.heap.size := by have := hb3.size; omega
    clear hb3 Hb2 C hs2 q14 q15 q16 q17
    cases b2
    · go_wp2_with fail
      refine (known15 _).mono ?_
      rintro e wk ⟨rfl, hbk⟩
      have HBk := Lib.hid (HB.out.trans (hbk.mono (by omega)))
      clear hbk Hb3
      go_wp2_with fail
      go_ret
      have hh := HBk.out
      rw [HN0.out] at hh
      exact ⟨rfl, hh⟩
    · obtain ⟨x, hx⟩ : ∃ x : Ed n, x = ([k0, k1, k2, k3, k4, k5, k6, k7, k8, k9], kb, z1, z2, z3, z4) := ⟨_, rfl⟩
      have HRx : Hid (edP n w G [.int .i64 k0, .int .i64 k1, .int .i64 k2, .int .i64 k3, .int .i64 k4, .int .i64 k5, .int .i64 k6, .int .i64 k7, .int .i64 k8, .int .i64 k9, .bool kb, fv, rv, cv, s0, s1, s2, s3] x) := Lib.hid (by rw [hx]; exact HR.out)
      have HDx : Hid (edD n x) := Lib.hid (by rw [hx]; exact HD.out)
      have hzx : (edE n x).length ≤ 10485760 := by rw [hx]; exact hz
      obtain ⟨S, hS⟩ : ∃ S, S = mkB (edE n x) := ⟨_, rfl⟩
      have hSz : S.size ≤ 10485760 := by rw [hS, mkB_size]; exact hzx
      have HZx := Lib.hid hzx
      have HS := Lib.hid hS
      have HBW := Lib.hid (back_whole (fit_edD n) (byt_ed n) HDx.out)
      rw [← hS] at HBW
      clear hx hz HR HD H1 H2 H3 H4 hS hzx HDx
      have C34 : Hid (∀ W, Below N0 w W → Calls Tryz.prog 30 #[.agg #[.int .i64 k0, .int .i64 k1, .int .i64 k2, .int .i64 k3, .int .i64 k4, .int .i64 k5, .int .i64 k6, .int .i64 k7, .int .i64 k8, .int .i64 k9, .bool kb, fv, rv, cv, s0, s1, s2, s3]] W (fun e w' => e = .returned (.string S) ∧ Below W.heap.size W w')) := Lib.hid (fun W hW => by
        rw [HS.out]
        exact EncEdit30 n G W [.int .i64 k0, .int .i64 k1, .int .i64 k2, .int .i64 k3, .int .i64 k4, .int .i64 k5, .int .i64 k6, .int .i64 k7, .int .i64 k8, .int .i64 k9, .bool kb, fv, rv, cv, s0, s1, s2, s3] x (Rp.below (stb_ed n) HRx.out HG.out (by rw [← HN0.out]; exact hW)) (fun b h => Nat.lt_of_lt_of_le (HG.out b h) hW.size) (by have := HZx.out; omega))
      have C36 : Hid (∀ W, Below N0 w W → Calls Tryz.prog 32 #[.agg #[.int .i64 k0, .int .i64 k1, .int .i64 k2, .int .i64 k3, .int .i64 k4, .int .i64 k5, .int .i64 k6, .int .i64 k7, .int .i64 k8, .int .i64 k9, .bool kb, fv, rv, cv, s0, s1, s2, s3]] W (fun e w' => e = .returned (.string S) ∧ Below W.heap.size W w')) := Lib.hid (fun W hW => by
        rw [HS.out]
        exact str_edit n G W [.int .i64 k0, .int .i64 k1, .int .i64 k2, .int .i64 k3, .int .i64 k4, .int .i64 k5, .int .i64 k6, .int .i64 k7, .int .i64 k8, .int .i64 k9, .bool kb, fv, rv, cv, s0, s1, s2, s3] x (Rp.below (stb_ed n) HRx.out HG.out (by rw [← HN0.out]; exact hW)) (fun b h => Nat.lt_of_lt_of_le (HG.out b h) hW.size) (by have := HZx.out; omega))
      go_upto_region 3 with fail
      refine wp_region_seq0 (by rfl) ?_
      simp only [List.map]
      refine sq_load_row 68 _ rfl N0 68 #[.int .i64 k0, .int .i64 k1, .int .i64 k2, .int .i64 k3, .int .i64 k4, .int .i64 k5, .int .i64 k6, .int .i64 k7, .int .i64 k8, .int .i64 k9, .bool kb, fv, rv, cv, s0, s1, s2, s3] _ rfl Hb3.out Tryz.underlying68 rfl size68 trivial ?_
      simp only [Act.put, List.setIfInBounds_toArray, List.set_cons_zero, List.set_cons_succ]
      refine sq_call 30 #[.agg #[.int .i64 k0, .int .i64 k1, .int .i64 k2, .int .i64 k3, .int .i64 k4, .int .i64 k5, .int .i64 k6, .int .i64 k7, .int .i64 k8, .int .i64 k9, .bool kb, fv, rv, cv, s0, s1, s2, s3]] (by go_simp) ?_
      refine Calls.mono (C34.out _ HB.out) ?_
      rintro e w4 ⟨rfl, hb4⟩
      replace HB := Lib.hid (HB.out.trans (hb4.mono (by omega)))
      have Hb4 := Lib.hid ((hb4.block _ (by omega)).trans Hb3.out)
      have hs4 : N0 + 1 ≤ w4.heap.size := by have := hb4.size; omega
      clear hb4 Hb3 C34 hs3
      refine ⟨_, rfl, trivial, ?_⟩
      simp only [Act.put, List.setIfInBounds_toArray, List.set_cons_zero, List.set_cons_succ]
      refine sq_pure (.string S) (by go_simp) trivial ?_
      simp only [Act.put, List.setIfInBounds_toArray, List.set_cons_zero, List.set_cons_succ]
      refine sq_done ?_
      go_upto_region 4 with fail
      refine wp_region_seq0 (by rfl) ?_
      simp only [List.map]
      refine sq_pure (.string S) (by go_simp) trivial ?_
      simp only [Act.put, List.setIfInBounds_toArray, List.set_cons_zero, List.set_cons_succ]
      refine sq_call 31 #[.string S] (by go_simp) ?_
      refine Calls.mono (Dec31 n S w4 (by omega) (by omega)) ?_
      rintro e w5 ⟨hb5, vs2, x2, rfl, hR2, ho2, _, hk2⟩
      obtain ⟨hbw1, hbw2⟩ := HBW.out
      rw [hbw2]
      obtain rfl : x2 = x := ok_same hbw1 (hk2 hbw2)
      clear hk2 hbw1 hbw2 HBW
      have hl2 := ed_len hR2
      replace HB := Lib.hid (HB.out.trans (hb5.mono (by omega)))
      have Hb5 := Lib.hid ((hb5.block _ (by omega)).trans Hb4.out)
      have hs5 : N0 + 1 ≤ w5.heap.size := by have := hb5.size; omega
      clear hb5 Hb4
      refine ⟨_, rfl, trivial, ?_⟩
      simp only [Act.put, List.setIfInBounds_toArray, List.set_cons_zero, List.set_cons_succ]
      refine sq_pure (.tuple #[.agg (List.toArray vs2), .int .i64 0]) (by go_simp) trivial ?_
      simp only [Act.put, List.setIfInBounds_toArray, List.set_cons_zero, List.set_cons_succ]
      refine sq_pure (.agg (List.toArray vs2)) (by go_simp) trivial ?_
      simp only [Act.put, List.setIfInBounds_toArray, List.set_cons_zero, List.set_cons_succ]
      refine sq_pure (.int .i64 0) (by go_simp) trivial ?_
      simp only [Act.put, List.setIfInBounds_toArray, List.set_cons_zero, List.set_cons_succ]
      obtain ⟨M, hM⟩ : ∃ M, M = w5.heap.size := ⟨_, rfl⟩
      have HM := Lib.hid hM
      clear hM
      refine sq_value (.pointer (some ⟨w5.heap.size, 0, none⟩)) (w5.alloc (.cells #[.int .i64 0, .int .i64 0, .int .i64 0, .int .i64 0, .int .i64 0, .int .i64 0, .int .i64 0, .int .i64 0, .int .i64 0, .int .i64 0, .bool false, .slice none 0 0, .slice none 0 0, .slice none 0 0, .slice none 0 0, .slice none 0 0, .slice none 0 0, .slice none 0 0] 68)) (by go_simp) trivial ?_
      simp only [Act.put, List.setIfInBounds_toArray, List.set_cons_zero, List.set_cons_succ]
      refine sq_store_row 68 _ _ rfl rfl w5.heap.size 68 #[.int .i64 0, .int .i64 0, .int .i64 0, .int .i64 0, .int .i64 0, .int .i64 0, .int .i64 0, .int .i64 0, .int .i64 0, .int .i64 0, .bool false, .slice none 0 0, .slice none 0 0, .slice none 0 0, .slice none 0 0, .slice none 0 0, .slice none 0 0, .slice none 0 0] vs2 rfl rfl (heap_alloc_new w5 _) (by rw [hl2]; exact size68) ho2 (by rw [hl2]; rfl) ?_
      intro w6 hb6 hg
      have hq := below_new (Nat.le_refl _) _ hg
      clear hg
      replace HB := Lib.hid (HB.out.trans (hq.mono (by omega)))
      have Hb6 := Lib.hid ((hq.block _ (by omega)).trans Hb5.out)
      have hs6 : N0 + 1 ≤ w6.heap.size := by have := hq.size; omega
      have hR6 := Rp.below (stb_ed n) hR2 (fun b hb => hb.2) hq
      have hg6 : w5.heap.size < w6.heap.size := lt_of_blk hb6
      rw [← HM.out] at hb6 hg6 ⊢
      clear hq hR2 Hb5 hs5 hs4
      refine ⟨trivial, ?_⟩
      refine sq_pure (.int .i64 0) (by go_simp) trivial ?_
      simp only [Act.put, List.setIfInBounds_toArray, List.set_cons_zero, List.set_cons_succ]
      refine sq_done ?_
      have C37 : Hid (∀ W, Below w6.heap.size w6 W → Calls Tryz.prog 32 #[.agg (List.toArray vs2)] W (fun e w' => e = .returned (.string S) ∧ Below W.heap.size W w')) := Lib.hid (fun W hW => by
        rw [HS.out]
        exact str_edit n _ W vs2 x2 (rep_below (N := w4.heap.size) (M := w5.heap.size) (stb_ed n) hR6 hW (by rw [← HM.out]; omega)) (fun b hb => by have := hb.2; have := hW.size; have := HM.out; omega) (by have := HZx.out; omega))
      have Hg6 := Lib.hid hb6
      clear hR6 ho2 hb6 HRx HZx HS HG
      go_upto_region 5 with fail
      refine wp_region_guard0 ?_
      simp only [List.map]
      refine hd_run rfl ?_
      refine sq_pure (.string S) (by go_simp) trivial ?_
      refine sq_done ?_
      simp only [Act.put, List.setIfInBounds_toArray, List.set_cons_zero, List.set_cons_succ]
      refine hd_run rfl ?_
      refine sq_load_row 68 _ rfl N0 68 #[.int .i64 k0, .int .i64 k1, .int .i64 k2, .int .i64 k3, .int .i64 k4, .int .i64 k5, .int .i64 k6, .int .i64 k7, .int .i64 k8, .int .i64 k9, .bool kb, fv, rv, cv, s0, s1, s2, s3] _ rfl Hb6.out Tryz.underlying68 rfl size68 trivial ?_
      refine sq_done ?_
      simp only [Act.put, List.setIfInBounds_toArray, List.set_cons_zero, List.set_cons_succ]
      refine hd_run rfl ?_
      refine sq_call 32 #[.agg #[.int .i64 k0, .int .i64 k1, .int .i64 k2, .int .i64 k3, .int .i64 k4, .int .i64 k5, .int .i64 k6, .int .i64 k7, .int .i64 k8, .int .i64 k9, .bool kb, fv, rv, cv, s0, s1, s2, s3]] (by go_simp) ?_
      refine Calls.mono (C36.out _ HB.out) ?_
      rintro e w7 ⟨rfl, hb7⟩
      replace HB := Lib.hid (HB.out.trans (hb7.mono (by omega)))
      have Hg7 := Lib.hid ((hb7.block _ hg6).trans Hg6.out)
      have C := Lib.hid (C37.out w7 hb7)
      have hs7 : N0 + 1 ≤ w7.heap.size := by have := hb7.size; omega
      clear Hb6 Hg6 C36 C37 hb7
      refine ⟨_, rfl, trivial, ?_⟩
      refine sq_done ?_
      simp only [Act.put, List.setIfInBounds_toArray, List.set_cons_zero, List.set_cons_succ]
      refine hd_run rfl ?_
      refine sq_pure (.bool true) (by go_simp) trivial ?_
      refine sq_done ?_
      simp only [Act.put, List.setIfInBounds_toArray, List.set_cons_zero, List.set_cons_succ]
      refine hd_run rfl ?_
      refine sq_pure (.bool true) (by go_simp) trivial ?_
      refine sq_done ?_
      simp only [Act.put, List.setIfInBounds_toArray, List.set_cons_zero, List.set_cons_succ]
      refine hd_run rfl ?_
      refine sq_pure (.int .i64 0) (by go_simp) trivial ?_
      refine sq_done ?_
      simp only [Act.put, List.setIfInBounds_toArray, List.set_cons_zero, List.set_cons_succ]
      refine hd_run rfl ?_
      refine sq_pure (.bool true) (by go_simp) trivial ?_
      refine sq_done ?_
      simp only [Act.put, List.setIfInBounds_toArray, List.set_cons_zero, List.set_cons_succ]
      refine hd_run rfl ?_
      refine sq_pure (.bool true) (by go_simp) trivial ?_
      refine sq_done ?_
      simp only [Act.put, List.setIfInBounds_toArray, List.set_cons_zero, List.set_cons_succ]
      refine hd_run rfl ?_
      refine sq_pure (.bool true) (by go_simp) trivial ?_
      refine sq_done ?_
      simp only [Act.put, List.setIfInBounds_toArray, List.set_cons_zero, List.set_cons_succ]
      refine hd_run rfl ?_
      refine sq_load_row 68 _ rfl M 68 vs2.toArray _ rfl Hg7.out Tryz.underlying68 rfl (by rw [List.size_toArray, hl2]; exact size68) trivial ?_
      refine sq_done ?_
      simp only [Act.put, List.setIfInBounds_toArray, List.set_cons_zero, List.set_cons_succ]
      refine hd_run rfl ?_
      refine sq_call 32 #[.agg (List.toArray vs2)] (by go_simp) ?_
      refine Calls.mono C.out ?_
      rintro e w8 ⟨rfl, hb8⟩
      replace HB := Lib.hid (HB.out.trans (hb8.mono (by omega)))
      clear C hb8 Hg7
      refine ⟨_, rfl, trivial, ?_⟩
      refine sq_done ?_
      simp only [Act.put, List.setIfInBounds_toArray, List.set_cons_zero, List.set_cons_succ]
      refine hd_run rfl ?_
      refine sq_pure (.string S) (by go_simp) trivial ?_
      refine sq_done ?_
      simp only [Act.put, List.setIfInBounds_toArray, List.set_cons_zero, List.set_cons_succ]
      refine hd_run rfl ?_
      refine sq_pure (.bool true) (by go_simp) trivial ?_
      refine sq_done ?_
      simp only [Act.put, List.setIfInBounds_toArray, List.set_cons_zero, List.set_cons_succ]
      refine hd_run rfl ?_
      refine sq_pure (.bool true) (by go_simp) trivial ?_
      refine sq_done ?_
      simp only [Act.put, List.setIfInBounds_toArray, List.set_cons_zero, List.set_cons_succ]
      refine hd_run rfl ?_
      refine sq_pure (.bool true) (by go_simp) trivial ?_
      refine sq_done ?_
      simp only [Act.put, List.setIfInBounds_toArray, List.set_cons_zero, List.set_cons_succ]
      refine NoPanic.normal (NoPanic.normal ?_)
      go_wp2_with fail
      go_ret
      have hh := HB.out
      rw [HN0.out] at hh
      exact ⟨rfl, hh⟩
end Go.Proofs.YtmhhcfceikcfbaaGreat
