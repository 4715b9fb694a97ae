/- Walk: the law on bytes. -/
import Derived.Test.YtmhhcfceikcfbaaGreatF1
namespace Go.Proofs.YtmhhcfceikcfbaaGreat
open Go.RowKit

theorem rep_gap {α : Type} {R : Rp α} (hR : Stb R) {N M r : Nat} {w w' : World} {vs : List Value} {x : α} (h : R w (fun b => N ≤ b ∧ b < M) vs x) (hg : w.grownBy w' (some r)) (hr : r < N ∨ M ≤ r) : R w' (fun b => N ≤ b ∧ b < M) vs x :=
  hR _ _ _ _ _ _ (fun _ h => h) (fun b hb hlt => hg.block b hlt (fun q => by injection q with q; obtain ⟨h1, h2⟩ := hb; omega)) h
theorem rep_below {α : Type} {R : Rp α} (hR : Stb R) {N M B : Nat} {w w' : World} {vs : List Value} {x : α} (h : R w (fun b => N ≤ b ∧ b < M) vs x) (hb : Below B w w') (hM : M ≤ B) : R w' (fun b => N ≤ b ∧ b < M) vs x :=
  hR _ _ _ _ _ _ (fun _ h => h) (fun b hG _ => hb.block b (Nat.lt_of_lt_of_le hG.2 hM)) h
theorem code_28 {α : Type} {p : Rd α} {s : ByteArray} {x : α} {k : Nat} {e : Int} (h : Res p s 0 0 x k e) : (if k < s.size then errC e 15 else e) = decErr p (bytesN s) ∧ (decErr p (bytesN s) = 0 → p (bytesN s) = .ok x s.size) := dec_code h
theorem ok_same {α : Type} {p : Rd α} {L : List Nat} {x y : α} {n m : Nat} (h : p L = .ok x n) (g : p L = .ok y m) : y = x := by
  rw [h] at g
  injection g with g1
  exact g1.symm

set_option maxRecDepth 100000 in
set_option maxHeartbeats 4000000 in
theorem bytes_any (s1 : ByteArray) (w : World) : Calls Tryz.prog 10 #[.string s1] w (TrueC w) := by
  obtain ⟨q1, hq1⟩ : ∃ q, q = (min (s1.size : Int) 300).toNat := ⟨_, rfl⟩
  obtain ⟨t, h1⟩ : ∃ t, t = s1.extract 0 q1 := ⟨_, rfl⟩
  have z1 : t.size ≤ 300 := by rw [h1, ByteArray.size_extract]; omega
  have g1 : (if (300 : Int) < (s1.size : Int) then (300 : Int) else (s1.size : Int)) = (q1 : Int) := by split <;> omega
  have g3 : (q1 : Int) ≤ (s1.size : Int) := by omega
  have x1 := h1.symm
  clear hq1 h1
  obtain ⟨n, hn⟩ : ∃ n, n = t.size + 1 := ⟨_, rfl⟩
  obtain ⟨N0, hN0⟩ : ∃ N, N = w.heap.size := ⟨_, rfl⟩
  go_enter Tryz.func10, Tryz.ntmps10
  go_upto_region 2 with fail
  clear g1 g3 x1
  refine wp_region_seq0 (by rfl) ?_
  simp only [List.map]
  refine sq_pure (.string t) (by go_simp) trivial ?_
  simp only [Act.put, List.setIfInBounds_toArray, List.set_cons_zero, List.set_cons_succ]
  refine sq_call 31 #[.string t] (by go_simp) ?_
  refine Calls.mono (Dec31 n t w (by omega) (by omega)) ?_
  rintro e u1 ⟨hb, vs1, x1, rfl, hR1, ho1, hz1, hk1⟩
  obtain ⟨E1, hE1⟩ : ∃ q, q = decErr (edR n) (bytesN t) := ⟨_, rfl⟩
  rw [← hE1] at hz1 hk1 ⊢
  have hl1 := ed_len hR1
  have HB : Below N0 w u1 := by rw [hN0]; exact hb
  have hs0 : N0 ≤ u1.heap.size := by rw [hN0]; exact hb.size
  rw [← hN0] at hR1
  refine ⟨_, rfl, trivial, ?_⟩
  simp only [Act.put, List.setIfInBounds_toArray, List.set_cons_zero, List.set_cons_succ]
  refine sq_pure (.tuple #[.agg (List.toArray vs1), .int .i64 E1]) (by go_simp) trivial ?_
  simp only [Act.put, List.setIfInBounds_toArray, List.set_cons_zero, List.set_cons_succ]
  refine sq_pure (.agg (List.toArray vs1)) (by go_simp) trivial ?_
  simp only [Act.put, List.setIfInBounds_toArray, List.set_cons_zero, List.set_cons_succ]
  refine sq_pure (.int .i64 E1) (by go_simp) trivial ?_
  simp only [Act.put, List.setIfInBounds_toArray, List.set_cons_zero, List.set_cons_succ]
  obtain ⟨M1, hM1⟩ : ∃ M, M = u1.heap.size := ⟨_, rfl⟩
  refine sq_value (.pointer (some ⟨u1.heap.size, 0, none⟩)) (u1.alloc (.cells #[.int .i64 0, .int .i64 0, .int .i64 0, .int .i64 0, .int .i64 0, .int .i64 0, .int .i64 0, .int .i64 0, .int .i64 0, .int .i64 0, .bool false, .slice none 0 0, .slice none 0 0, .slice none 0 0, .slice none 0 0, .slice none 0 0, .slice none 0 0, .slice none 0 0] 68)) (by go_simp) trivial ?_
  simp only [Act.put, List.setIfInBounds_toArray, List.set_cons_zero, List.set_cons_succ]
  refine sq_store_row 68 _ _ rfl rfl u1.heap.size 68 #[.int .i64 0, .int .i64 0, .int .i64 0, .int .i64 0, .int .i64 0, .int .i64 0, .int .i64 0, .int .i64 0, .int .i64 0, .int .i64 0, .bool false, .slice none 0 0, .slice none 0 0, .slice none 0 0, .slice none 0 0, .slice none 0 0, .slice none 0 0, .slice none 0 0] vs1 rfl rfl (heap_alloc_new u1 _) (by rw [hl1]; exact size68) ho1 (by rw [hl1]; rfl) ?_
  intro v1 hb1 hg
  have hq := below_new (Nat.le_refl _) _ hg
  rw [← hM1] at hb1 hq ⊢
  change (edP n) u1 (fun b => N0 ≤ b ∧ b < u1.heap.size) vs1 x1 at hR1
  rw [← hM1] at hR1
  rw [← hM1] at hs0
  replace HB := HB.trans (hq.mono (by omega))
  replace hR1 := rep_below (stb_ed n) hR1 hq (by omega)
  obtain ⟨B1, hB1⟩ : ∃ B, B = v1.heap.size := ⟨_, rfl⟩
  have hmb1 : M1 < B1 := by rw [hB1]; exact lt_of_blk hb1
  clear hq hg hb
  refine ⟨trivial, ?_⟩
  refine sq_pure (.int .i64 E1) (by go_simp) trivial ?_
  simp only [Act.put, List.setIfInBounds_toArray, List.set_cons_zero, List.set_cons_succ]
  refine sq_done ?_
  go_upto_region 3 with fail
  refine wp_region_seq0 (by rfl) ?_
  simp only [List.map]
  refine sq_pure (.string t) (by go_simp) trivial ?_
  simp only [Act.put, List.setIfInBounds_toArray, List.set_cons_zero, List.set_cons_succ]
  refine sq_call 35 #[.string t] (by go_simp) ?_
  refine Calls.mono (Dec35 n t v1 (by omega) (by omega)) ?_
  rintro e u2 ⟨hb, vs2, x2, rfl, hR2, ho2, hz2, hk2⟩
  obtain ⟨E2, hE2⟩ : ∃ q, q = decErr (spR n) (bytesN t) := ⟨_, rfl⟩
  rw [← hE2] at hz2 hk2 ⊢
  have hl2 := sp_len hR2
  have hbv := hb
  rw [← hB1] at hb hR2
  replace HB := HB.trans (hb.mono (by omega))
  replace hR1 := rep_below (stb_ed n) hR1 hb (by omega)
  replace hb1 := (hb.block _ (by omega)).trans hb1
  have hs1 : B1 ≤ u2.heap.size := by rw [hB1]; exact hb.size
  refine ⟨_, rfl, trivial, ?_⟩
  simp only [Act.put, List.setIfInBounds_toArray, List.set_cons_zero, List.set_cons_succ]
  refine sq_pure (.tuple #[.agg (List.toArray vs2), .int .i64 E2]) (by go_simp) trivial ?_
  simp only [Act.put, List.setIfInBounds_toArray, List.set_cons_zero, List.set_cons_succ]
  refine sq_pure (.agg (List.toArray vs2)) (by go_simp) trivial ?_
  simp only [Act.put, List.setIfInBounds_toArray, List.set_cons_zero, List.set_cons_succ]
  refine sq_pure (.int .i64 E2) (by go_simp) trivial ?_
  simp only [Act.put, List.setIfInBounds_toArray, List.set_cons_zero, List.set_cons_succ]
  obtain ⟨M2, hM2⟩ : ∃ M, M = u2.heap.size := ⟨_, rfl⟩
  refine sq_value (.pointer (some ⟨u2.heap.size, 0, none⟩)) (u2.alloc (.cells #[.int .i64 0, .int .i64 0, .int .i64 0, .int .i64 0, .slice none 0 0, .slice none 0 0, .slice none 0 0, .slice none 0 0, .int .i64 0, .int .i64 0, .slice none 0 0, .slice none 0 0, .slice none 0 0, .slice none 0 0, .slice none 0 0, .slice none 0 0, .slice none 0 0, .slice none 0 0, .slice none 0 0, .slice none 0 0, .int .i64 0, .int .i64 0, .slice none 0 0, .slice none 0 0, .slice none 0 0, .slice none 0 0, .slice none 0 0, .slice none 0 0] 77)) (by go_simp) trivial ?_
  simp only [Act.put, List.setIfInBounds_toArray, List.set_cons_zero, List.set_cons_succ]
  refine sq_store_row 77 _ _ rfl rfl u2.heap.size 77 #[.int .i64 0, .int .i64 0, .int .i64 0, .int .i64 0, .slice none 0 0, .slice none 0 0, .slice none 0 0, .slice none 0 0, .int .i64 0, .int .i64 0, .slice none 0 0, .slice none 0 0, .slice none 0 0, .slice none 0 0, .slice none 0 0, .slice none 0 0, .slice none 0 0, .slice none 0 0, .slice none 0 0, .slice none 0 0, .int .i64 0, .int .i64 0, .slice none 0 0, .slice none 0 0, .slice none 0 0, .slice none 0 0, .slice none 0 0, .slice none 0 0] vs2 rfl rfl (heap_alloc_new u2 _) (by rw [hl2]; exact size77) ho2 (by rw [hl2]; rfl) ?_
  intro v2 hb2 hg
  have hq := below_new (Nat.le_refl _) _ hg
  rw [← hM2] at hb2 hq ⊢
  change (spP n) u2 (fun b => B1 ≤ b ∧ b < u2.heap.size) vs2 x2 at hR2
  rw [← hM2] at hR2
  rw [← hM2] at hs1
  replace HB := HB.trans (hq.mono (by omega))
  replace hR1 := rep_below (stb_ed n) hR1 hq (by omega)
  replace hb1 := (hq.block _ (by omega)).trans hb1
  replace hR2 := rep_below (stb_sp n) hR2 hq (by omega)
  obtain ⟨B2, hB2⟩ : ∃ B, B = v2.heap.size := ⟨_, rfl⟩
  have hmb2 : M2 < B2 := by rw [hB2]; exact lt_of_blk hb2
  clear hq hg hb
  clear hbv
  refine ⟨trivial, ?_⟩
  refine sq_pure (.int .i64 E2) (by go_simp) trivial ?_
  simp only [Act.put, List.setIfInBounds_toArray, List.set_cons_zero, List.set_cons_succ]
  refine sq_done ?_
  go_upto_region 5 with fail
  have h7 : Rdr 30 B2 t 0 0 ((v2.alloc (.cells #[.string t, .int .i64 0, .int .i64 0] 30)).alloc (.cells #[.string t, .int .i64 0, .int .i64 0] 30)) := by rw [hB2]; exact (Below.heap_alloc _ _ _ (by simp)).trans (heap_alloc_new _ _)
  have h8 : Rdr 30 (B2 + 1) t 0 0 ((v2.alloc (.cells #[.string t, .int .i64 0, .int .i64 0] 30)).alloc (.cells #[.string t, .int .i64 0, .int .i64 0] 30)) := by rw [hB2]; exact heap_alloc_new' _ _ (by simp)
  have hq : Below B2 v2 ((v2.alloc (.cells #[.string t, .int .i64 0, .int .i64 0] 30)).alloc (.cells #[.string t, .int .i64 0, .int .i64 0] 30)) := by rw [hB2]; exact ((Below.refl _ _).alloc (Nat.le_refl _) _).alloc (by simp) _
  replace HB := HB.trans (hq.mono (by omega))
  replace hR1 := rep_below (stb_ed n) hR1 hq (by omega)
  replace hb1 := (hq.block _ (by omega)).trans hb1
  replace hR2 := rep_below (stb_sp n) hR2 hq (by omega)
  replace hb2 := (hq.block _ (by omega)).trans hb2
  have hB3 : ((v2.alloc (.cells #[.string t, .int .i64 0, .int .i64 0] 30)).alloc (.cells #[.string t, .int .i64 0, .int .i64 0] 30)).heap.size = B2 + 2 := by rw [hB2]; simp
  rw [← hB2]
  obtain ⟨v3, hv3⟩ : ∃ v, v = (v2.alloc (.cells #[.string t, .int .i64 0, .int .i64 0] 30)).alloc (.cells #[.string t, .int .i64 0, .int .i64 0] 30) := ⟨_, rfl⟩
  rw [← hv3] at h7 h8 hB3 HB hR1 hR2 hb1 hb2 ⊢
  clear hv3 hq hB2
  refine wp_region_seq0 (by rfl) ?_
  simp only [List.map]
  refine sq_pure (.pointer (some ⟨B2, 0, none⟩)) (by go_simp) trivial ?_
  simp only [Act.put, List.setIfInBounds_toArray, List.set_cons_zero, List.set_cons_succ]
  refine sq_call 39 #[.pointer (some ⟨B2, 0, none⟩)] (by go_simp) ?_
  refine Calls.mono (lr39 n B2 0 t 0 v3 h7 (by omega) (by omega) (fun _ => by omega)) ?_
  rintro e v4 ⟨vs3, x3, k3, e3, rfl, hl3, ho3, hR3, h7', hg, hr3⟩
  clear h7
  rw [hB3] at hR3
  have hs4 := hg.size
  rw [hB3] at hs4
  obtain ⟨M3, hM3⟩ : ∃ M, M = v4.heap.size := ⟨_, rfl⟩
  rw [← hM3] at hR3 hs4
  replace HB := HB.trans (below_store (by omega) hg (by omega))
  replace hR1 := rep_gap (stb_ed n) hR1 hg (by omega)
  replace hb1 := (hg.block _ (lt_of_blk hb1) (fun q => by injection q with q; omega)).trans hb1
  replace hR2 := rep_gap (stb_sp n) hR2 hg (by omega)
  replace hb2 := (hg.block _ (lt_of_blk hb2) (fun q => by injection q with q; omega)).trans hb2
  replace h8 := (hg.block _ (lt_of_blk h8) (fun q => by injection q with q; omega)).trans h8
  clear hg
  refine ⟨_, rfl, trivial, ?_⟩
  simp only [Act.put, List.setIfInBounds_toArray, List.set_cons_zero, List.set_cons_succ]
  refine sq_pure (.pointer (some ⟨(B2 + 1), 0, none⟩)) (by go_simp) trivial ?_
  simp only [Act.put, List.setIfInBounds_toArray, List.set_cons_zero, List.set_cons_succ]
  refine sq_call 40 #[.pointer (some ⟨(B2 + 1), 0, none⟩)] (by go_simp) ?_
  refine Calls.mono (lr40 n (B2 + 1) 0 t 0 v4 h8 (by omega) (by omega) (fun _ => by omega)) ?_
  rintro e v5 ⟨vs4, x4, k4, e4, rfl, hl4, ho4, hR4, h8', hg, hr4⟩
  clear h8
  rw [← hM3] at hR4
  have hs5 := hg.size
  rw [← hM3] at hs5
  obtain ⟨M4, hM4⟩ : ∃ M, M = v5.heap.size := ⟨_, rfl⟩
  rw [← hM4] at hR4 hs5
  replace HB := HB.trans (below_store (by omega) hg (by omega))
  replace hR1 := rep_gap (stb_ed n) hR1 hg (by omega)
  replace hb1 := (hg.block _ (lt_of_blk hb1) (fun q => by injection q with q; omega)).trans hb1
  replace hR2 := rep_gap (stb_sp n) hR2 hg (by omega)
  replace hb2 := (hg.block _ (lt_of_blk hb2) (fun q => by injection q with q; omega)).trans hb2
  replace hR3 := rep_gap (stb_ed n) hR3 hg (by omega)
  replace h7' := (hg.block _ (lt_of_blk h7') (fun q => by injection q with q; omega)).trans h7'
  clear hg
  refine ⟨_, rfl, trivial, ?_⟩
  simp only [Act.put, List.setIfInBounds_toArray, List.set_cons_zero, List.set_cons_succ]
  refine sq_value (.pointer (some ⟨v5.heap.size, 0, none⟩)) ((v5.alloc (.cells #[.int .i64 0, .int .i64 0, .int .i64 0, .int .i64 0, .int .i64 0, .int .i64 0, .int .i64 0, .int .i64 0, .int .i64 0, .int .i64 0, .bool false, .slice none 0 0, .slice none 0 0, .slice none 0 0, .slice none 0 0, .slice none 0 0, .slice none 0 0, .slice none 0 0] 68))) (by go_simp) trivial ?_
  simp only [Act.put, List.setIfInBounds_toArray, List.set_cons_zero, List.set_cons_succ]
  refine sq_value (.pointer (some ⟨(v5.heap.size + 1), 0, none⟩)) (((v5.alloc (.cells #[.int .i64 0, .int .i64 0, .int .i64 0, .int .i64 0, .int .i64 0, .int .i64 0, .int .i64 0, .int .i64 0, .int .i64 0, .int .i64 0, .bool false, .slice none 0 0, .slice none 0 0, .slice none 0 0, .slice none 0 0, .slice none 0 0, .slice none 0 0, .slice none 0 0] 68)).alloc (.cells #[.int .i64 0, .int .i64 0, .int .i64 0, .int .i64 0, .slice none 0 0, .slice none 0 0, .slice none 0 0, .slice none 0 0, .int .i64 0, .int .i64 0, .slice none 0 0, .slice none 0 0, .slice none 0 0, .slice none 0 0, .slice none 0 0, .slice none 0 0, .slice none 0 0, .slice none 0 0, .slice none 0 0, .slice none 0 0, .int .i64 0, .int .i64 0, .slice none 0 0, .slice none 0 0, .slice none 0 0, .slice none 0 0, .slice none 0 0, .slice none 0 0] 77))) (by go_simp) trivial ?_
  simp only [Act.put, List.setIfInBounds_toArray, List.set_cons_zero, List.set_cons_succ]
  have hq : Below M4 v5 ((v5.alloc (.cells #[.int .i64 0, .int .i64 0, .int .i64 0, .int .i64 0, .int .i64 0, .int .i64 0, .int .i64 0, .int .i64 0, .int .i64 0, .int .i64 0, .bool false, .slice none 0 0, .slice none 0 0, .slice none 0 0, .slice none 0 0, .slice none 0 0, .slice none 0 0, .slice none 0 0] 68)).alloc (.cells #[.int .i64 0, .int .i64 0, .int .i64 0, .int .i64 0, .slice none 0 0, .slice none 0 0, .slice none 0 0, .slice none 0 0, .int .i64 0, .int .i64 0, .slice none 0 0, .slice none 0 0, .slice none 0 0, .slice none 0 0, .slice none 0 0, .slice none 0 0, .slice none 0 0, .slice none 0 0, .slice none 0 0, .slice none 0 0, .int .i64 0, .int .i64 0, .slice none 0 0, .slice none 0 0, .slice none 0 0, .slice none 0 0, .slice none 0 0, .slice none 0 0] 77)) := by rw [hM4]; exact ((Below.refl _ _).alloc (Nat.le_refl _) _).alloc (by simp) _
  replace HB := HB.trans (hq.mono (by omega))
  replace hR1 := rep_below (stb_ed n) hR1 hq (by omega)
  replace hb1 := (hq.block _ (by omega)).trans hb1
  replace hR2 := rep_below (stb_sp n) hR2 hq (by omega)
  replace hb2 := (hq.block _ (by omega)).trans hb2
  replace hR3 := rep_below (stb_ed n) hR3 hq (by omega)
  replace h7' := (hq.block _ (by omega)).trans h7'
  replace hR4 := rep_below (stb_sp n) hR4 hq (by omega)
  replace h8' := (hq.block _ (by omega)).trans h8'
  clear hq
  have h9 : ((v5.alloc (.cells #[.int .i64 0, .int .i64 0, .int .i64 0, .int .i64 0, .int .i64 0, .int .i64 0, .int .i64 0, .int .i64 0, .int .i64 0, .int .i64 0, .bool false, .slice none 0 0, .slice none 0 0, .slice none 0 0, .slice none 0 0, .slice none 0 0, .slice none 0 0, .slice none 0 0] 68)).alloc (.cells #[.int .i64 0, .int .i64 0, .int .i64 0, .int .i64 0, .slice none 0 0, .slice none 0 0, .slice none 0 0, .slice none 0 0, .int .i64 0, .int .i64 0, .slice none 0 0, .slice none 0 0, .slice none 0 0, .slice none 0 0, .slice none 0 0, .slice none 0 0, .slice none 0 0, .slice none 0 0, .slice none 0 0, .slice none 0 0, .int .i64 0, .int .i64 0, .slice none 0 0, .slice none 0 0, .slice none 0 0, .slice none 0 0, .slice none 0 0, .slice none 0 0] 77)).heap[M4]? = some (.cells #[.int .i64 0, .int .i64 0, .int .i64 0, .int .i64 0, .int .i64 0, .int .i64 0, .int .i64 0, .int .i64 0, .int .i64 0, .int .i64 0, .bool false, .slice none 0 0, .slice none 0 0, .slice none 0 0, .slice none 0 0, .slice none 0 0, .slice none 0 0, .slice none 0 0] 68 (0, 0)) := by rw [hM4]; exact (Below.heap_alloc _ _ _ (by simp)).trans (heap_alloc_new _ _)
  have h10 : ((v5.alloc (.cells #[.int .i64 0, .int .i64 0, .int .i64 0, .int .i64 0, .int .i64 0, .int .i64 0, .int .i64 0, .int .i64 0, .int .i64 0, .int .i64 0, .bool false, .slice none 0 0, .slice none 0 0, .slice none 0 0, .slice none 0 0, .slice none 0 0, .slice none 0 0, .slice none 0 0] 68)).alloc (.cells #[.int .i64 0, .int .i64 0, .int .i64 0, .int .i64 0, .slice none 0 0, .slice none 0 0, .slice none 0 0, .slice none 0 0, .int .i64 0, .int .i64 0, .slice none 0 0, .slice none 0 0, .slice none 0 0, .slice none 0 0, .slice none 0 0, .slice none 0 0, .slice none 0 0, .slice none 0 0, .slice none 0 0, .slice none 0 0, .int .i64 0, .int .i64 0, .slice none 0 0, .slice none 0 0, .slice none 0 0, .slice none 0 0, .slice none 0 0, .slice none 0 0] 77)).heap[M4 + 1]? = some (.cells #[.int .i64 0, .int .i64 0, .int .i64 0, .int .i64 0, .slice none 0 0, .slice none 0 0, .slice none 0 0, .slice none 0 0, .int .i64 0, .int .i64 0, .slice none 0 0, .slice none 0 0, .slice none 0 0, .slice none 0 0, .slice none 0 0, .slice none 0 0, .slice none 0 0, .slice none 0 0, .slice none 0 0, .slice none 0 0, .int .i64 0, .int .i64 0, .slice none 0 0, .slice none 0 0, .slice none 0 0, .slice none 0 0, .slice none 0 0, .slice none 0 0] 77 (0, 0)) := by rw [hM4]; exact heap_alloc_new' _ _ (by simp)
  have hs6 : ((v5.alloc (.cells #[.int .i64 0, .int .i64 0, .int .i64 0, .int .i64 0, .int .i64 0, .int .i64 0, .int .i64 0, .int .i64 0, .int .i64 0, .int .i64 0, .bool false, .slice none 0 0, .slice none 0 0, .slice none 0 0, .slice none 0 0, .slice none 0 0, .slice none 0 0, .slice none 0 0] 68)).alloc (.cells #[.int .i64 0, .int .i64 0, .int .i64 0, .int .i64 0, .slice none 0 0, .slice none 0 0, .slice none 0 0, .slice none 0 0, .int .i64 0, .int .i64 0, .slice none 0 0, .slice none 0 0, .slice none 0 0, .slice none 0 0, .slice none 0 0, .slice none 0 0, .slice none 0 0, .slice none 0 0, .slice none 0 0, .slice none 0 0, .int .i64 0, .int .i64 0, .slice none 0 0, .slice none 0 0, .slice none 0 0, .slice none 0 0, .slice none 0 0, .slice none 0 0] 77)).heap.size = M4 + 2 := by rw [hM4]; simp
  rw [← hM4]
  obtain ⟨v6, hv6⟩ : ∃ v, v = ((v5.alloc (.cells #[.int .i64 0, .int .i64 0, .int .i64 0, .int .i64 0, .int .i64 0, .int .i64 0, .int .i64 0, .int .i64 0, .int .i64 0, .int .i64 0, .bool false, .slice none 0 0, .slice none 0 0, .slice none 0 0, .slice none 0 0, .slice none 0 0, .slice none 0 0, .slice none 0 0] 68)).alloc (.cells #[.int .i64 0, .int .i64 0, .int .i64 0, .int .i64 0, .slice none 0 0, .slice none 0 0, .slice none 0 0, .slice none 0 0, .int .i64 0, .int .i64 0, .slice none 0 0, .slice none 0 0, .slice none 0 0, .slice none 0 0, .slice none 0 0, .slice none 0 0, .slice none 0 0, .slice none 0 0, .slice none 0 0, .slice none 0 0, .int .i64 0, .int .i64 0, .slice none 0 0, .slice none 0 0, .slice none 0 0, .slice none 0 0, .slice none 0 0, .slice none 0 0] 77)) := ⟨_, rfl⟩
  rw [← hv6] at HB hR1 hR2 hb1 hb2 hR3 h7' hR4 h8' h9 h10 hs6 ⊢
  clear hv6 hM4 hM3
  refine sq_store_row 68 _ _ rfl rfl M4 68 _ vs3 rfl rfl h9 (by rw [hl3]; exact size68) ho3 (by rw [hl3]; rfl) ?_
  intro v7 h9' hg
  clear h9
  have hs7 : M4 + 2 ≤ v7.heap.size := by have := hg.size; omega
  replace HB := HB.trans (below_store (by omega) hg (by omega))
  replace hR1 := rep_gap (stb_ed n) hR1 hg (by omega)
  replace hb1 := (hg.block _ (lt_of_blk hb1) (fun q => by injection q with q; omega)).trans hb1
  replace hR2 := rep_gap (stb_sp n) hR2 hg (by omega)
  replace hb2 := (hg.block _ (lt_of_blk hb2) (fun q => by injection q with q; omega)).trans hb2
  replace hR3 := rep_gap (stb_ed n) hR3 hg (by omega)
  replace h7' := (hg.block _ (lt_of_blk h7') (fun q => by injection q with q; omega)).trans h7'
  replace hR4 := rep_gap (stb_sp n) hR4 hg (by omega)
  replace h8' := (hg.block _ (lt_of_blk h8') (fun q => by injection q with q; omega)).trans h8'
  replace h10 := (hg.block _ (lt_of_blk h10) (fun q => by injection q with q; omega)).trans h10
  clear hg
  refine ⟨trivial, ?_⟩
  refine sq_store_row 77 _ _ rfl rfl (M4 + 1) 77 _ vs4 rfl rfl h10 (by rw [hl4]; exact size77) ho4 (by rw [hl4]; rfl) ?_
  intro v8 h10' hg
  clear h10
  have hs8 : M4 + 2 ≤ v8.heap.size := by have := hg.size; omega
  replace HB := HB.trans (below_store (by omega) hg (by omega))
  replace hR1 := rep_gap (stb_ed n) hR1 hg (by omega)
  replace hb1 := (hg.block _ (lt_of_blk hb1) (fun q => by injection q with q; omega)).trans hb1
  replace hR2 := rep_gap (stb_sp n) hR2 hg (by omega)
  replace hb2 := (hg.block _ (lt_of_blk hb2) (fun q => by injection q with q; omega)).trans hb2
  replace hR3 := rep_gap (stb_ed n) hR3 hg (by omega)
  replace h7' := (hg.block _ (lt_of_blk h7') (fun q => by injection q with q; omega)).trans h7'
  replace hR4 := rep_gap (stb_sp n) hR4 hg (by omega)
  replace h8' := (hg.block _ (lt_of_blk h8') (fun q => by injection q with q; omega)).trans h8'
  replace h9' := (hg.block _ (lt_of_blk h9') (fun q => by injection q with q; omega)).trans h9'
  clear hg hs7
  refine ⟨trivial, sq_done ?_⟩
  obtain ⟨hc3, hc5⟩ := code_28 hr3
  obtain ⟨hc4, hc6⟩ := code_28 hr4
  rw [← hE1] at hc3 hc5
  rw [← hE2] at hc4 hc6
  have Hx3 : Hid (E1 = 0 → x3 = x1) := Lib.hid (fun q => ok_same (hk1 q) (hc5 q))
  have Hx4 : Hid (E2 = 0 → x4 = x2) := Lib.hid (fun q => ok_same (hk2 q) (hc6 q))
  have HZ1 := Lib.hid hz1
  have HZ2 := Lib.hid hz2
  have HK1 := Lib.hid hk1
  have HK2 := Lib.hid hk2
  clear hz1 hz2 hk1 hk2 hc5 hc6 hr3 hr4 hE1 hE2
  have HC3 := Lib.hid hc3
  have HC4 := Lib.hid hc4
  clear hc3 hc4
  have HF := Lib.hid (And.intro HB (And.intro hR1 (And.intro hR2 (And.intro hb1 (And.intro hb2 (And.intro hR3 (And.intro h7' (And.intro hR4 (And.intro h8' (And.intro h9' h10'))))))))))
  clear HB hR1 hR2 hb1 hb2 hR3 h7' hR4 h8' h9' h10'
  go_upto_region 6 with fail
  go_wp2_with fail
  refine (known15 _).mono ?_
  rintro e v9 ⟨rfl, hb⟩
  obtain ⟨HB, hR1, hR2, hb1, hb2, hR3, h7', hR4, h8', h9', h10'⟩ := HF.out
  clear HF
  have hs9 : M4 + 2 ≤ v9.heap.size := Nat.le_trans hs8 hb.size
  replace hb := hb.mono hs8
  replace HB := HB.trans (hb.mono (by omega))
  replace hR1 := rep_below (stb_ed n) hR1 hb (by omega)
  replace hb1 := (hb.block _ (by omega)).trans hb1
  replace hR2 := rep_below (stb_sp n) hR2 hb (by omega)
  replace hb2 := (hb.block _ (by omega)).trans hb2
  replace hR3 := rep_below (stb_ed n) hR3 hb (by omega)
  replace h7' := (hb.block _ (by omega)).trans h7'
  replace hR4 := rep_below (stb_sp n) hR4 hb (by omega)
  replace h8' := (hb.block _ (by omega)).trans h8'
  replace h9' := (hb.block _ (by omega)).trans h9'
  replace h10' := (hb.block _ (by omega)).trans h10'
  clear hb hs8
  have H8 := Lib.hid h8'
  have C := Lib.hid (end28 B2 k3 t e3 v9 h7')
  clear h7' h8'
  have HF := Lib.hid (And.intro HB (And.intro hR1 (And.intro hR2 (And.intro hb1 (And.intro hb2 (And.intro hR3 (And.intro hR4 (And.intro h9' h10'))))))))
  clear HB hR1 hR2 hb1 hb2 hR3 hR4 h9' h10'
  go_wp2_with fail
  refine C.out.mono ?_
  rintro e v10 ⟨rfl, hg⟩
  rw [HC3.out]
  obtain ⟨HB, hR1, hR2, hb1, hb2, hR3, hR4, h9', h10'⟩ := HF.out
  clear HF
  have h8 := (hg.block _ (lt_of_blk H8.out) (fun q => by injection q with q; omega)).trans H8.out
  have hs10 : M4 + 2 ≤ v10.heap.size := Nat.le_trans hs9 hg.size
  replace HB := HB.trans (below_store (by omega) hg (by omega))
  replace hR1 := rep_gap (stb_ed n) hR1 hg (by omega)
  replace hb1 := (hg.block _ (lt_of_blk hb1) (fun q => by injection q with q; omega)).trans hb1
  replace hR2 := rep_gap (stb_sp n) hR2 hg (by omega)
  replace hb2 := (hg.block _ (lt_of_blk hb2) (fun q => by injection q with q; omega)).trans hb2
  replace hR3 := rep_gap (stb_ed n) hR3 hg (by omega)
  replace hR4 := rep_gap (stb_sp n) hR4 hg (by omega)
  replace h9' := (hg.block _ (lt_of_blk h9') (fun q => by injection q with q; omega)).trans h9'
  replace h10' := (hg.block _ (lt_of_blk h10') (fun q => by injection q with q; omega)).trans h10'
  clear hg hs9 C H8 HC3
  have C := Lib.hid (end28 (B2 + 1) k4 t e4 v10 h8)
  clear h8
  have HF := Lib.hid (And.intro HB (And.intro hR1 (And.intro hR2 (And.intro hb1 (And.intro hb2 (And.intro hR3 (And.intro hR4 (And.intro h9' h10'))))))))
  clear HB hR1 hR2 hb1 hb2 hR3 hR4 h9' h10'
  go_wp2_with fail
  refine C.out.mono ?_
  rintro e v11 ⟨rfl, hg⟩
  rw [HC4.out]
  obtain ⟨HB, hR1, hR2, hb1, hb2, hR3, hR4, h9', h10'⟩ := HF.out
  clear HF
  have hs11 : M4 + 2 ≤ v11.heap.size := Nat.le_trans hs10 hg.size
  replace HB := HB.trans (below_store (by omega) hg (by omega))
  replace hR1 := rep_gap (stb_ed n) hR1 hg (by omega)
  replace hb1 := (hg.block _ (lt_of_blk hb1) (fun q => by injection q with q; omega)).trans hb1
  replace hR2 := rep_gap (stb_sp n) hR2 hg (by omega)
  replace hb2 := (hg.block _ (lt_of_blk hb2) (fun q => by injection q with q; omega)).trans hb2
  replace hR3 := rep_gap (stb_ed n) hR3 hg (by omega)
  replace hR4 := rep_gap (stb_sp n) hR4 hg (by omega)
  replace h9' := (hg.block _ (lt_of_blk h9') (fun q => by injection q with q; omega)).trans h9'
  replace h10' := (hg.block _ (lt_of_blk h10') (fun q => by injection q with q; omega)).trans h10'
  clear hg hs10 C HC4
  obtain ⟨de, fe⟩ := fit_ed n
  obtain ⟨ds, fs⟩ := fit_sp n
  have Hz1 : Hid ((edE n x1).length ≤ 1099511627776) := Lib.hid (dec_small fe (by omega) (ed0_small n) HZ1.out HK1.out)
  have Hz2 : Hid ((spE n x2).length ≤ 1099511627776) := Lib.hid (dec_small fs (by omega) (sp0_small n) HZ2.out HK2.out)
  obtain ⟨PE, hPE⟩ : ∃ P, P = mkB (edE n x1) := ⟨_, rfl⟩
  obtain ⟨PS, hPS⟩ : ∃ P, P = mkB (spE n x2) := ⟨_, rfl⟩
  have HPE := Lib.hid hPE
  have HPS := Lib.hid hPS
  have HW1 : Hid (E1 = 0 → PE = t) := Lib.hid (fun q => hPE.trans (whole fe (HK1.out q)).2)
  have HW2 : Hid (E2 = 0 → PS = t) := Lib.hid (fun q => hPS.trans (whole fs (HK2.out q)).2)
  clear hPE hPS fe fs HK1 HK2
  have hxx := Lib.hid (And.intro Hx3 (And.intro Hx4 (And.intro HZ1 HZ2)))
  clear Hx3 Hx4 HZ1 HZ2
  rcases Int.decEq E1 0 with q1 | q1
  · rcases Int.decEq E2 0 with q2 | q2
    · have d1 : (E1 != 0) = true := by simpa using q1
      have HF := Lib.hid (And.intro HB (And.intro hR1 (And.intro hR2 (And.intro hb1 (And.intro hb2 (And.intro hR3 (And.intro hR4 (And.intro h9' h10'))))))))
      clear HB hR1 hR2 hb1 hb2 hR3 hR4 h9' h10'
      go_upto_region 9 with fail
      obtain ⟨HB, hR1, hR2, hb1, hb2, hR3, hR4, h9', h10'⟩ := HF.out
      clear HF
      refine wp_region_seq0 (by rfl) ?_
      simp only [List.map]
      refine sq_pure (.agg #[.int .i64 0, .int .i64 0, .int .i64 0, .int .i64 0, .int .i64 0, .int .i64 0, .int .i64 0, .int .i64 0, .int .i64 0, .int .i64 0, .bool false, .slice none 0 0, .slice none 0 0, .slice none 0 0, .slice none 0 0, .slice none 0 0, .slice none 0 0, .slice none 0 0]) (by go_simp) trivial ?_
      simp only [Act.put, List.setIfInBounds_toArray, List.set_cons_zero, List.set_cons_succ]
      refine sq_store_row 68 _ _ rfl rfl M4 68 _ [.int .i64 0, .int .i64 0, .int .i64 0, .int .i64 0, .int .i64 0, .int .i64 0, .int .i64 0, .int .i64 0, .int .i64 0, .int .i64 0, .bool false, .slice none 0 0, .slice none 0 0, .slice none 0 0, .slice none 0 0, .slice none 0 0, .slice none 0 0, .slice none 0 0] rfl rfl h9' size68 (one_ed n v11 (fun _ => False) _ _ (ed0_rep n _ _)) (by rw [List.size_toArray, hl3]; rfl) ?_
      intro va h9a hg
      clear h9' hR3
      have hsa : M4 + 2 ≤ va.heap.size := Nat.le_trans hs11 hg.size
      replace HB := HB.trans (below_store (by omega) hg (by omega))
      replace hR1 := rep_gap (stb_ed n) hR1 hg (by omega)
      replace hb1 := (hg.block _ (lt_of_blk hb1) (fun q => by injection q with q; omega)).trans hb1
      replace hR2 := rep_gap (stb_sp n) hR2 hg (by omega)
      replace hb2 := (hg.block _ (lt_of_blk hb2) (fun q => by injection q with q; omega)).trans hb2
      replace hR4 := rep_gap (stb_sp n) hR4 hg (by omega)
      replace h10' := (hg.block _ (lt_of_blk h10') (fun q => by injection q with q; omega)).trans h10'
      clear hg hs11
      refine ⟨trivial, sq_done ?_⟩
      have h9' : va.heap[M4]? = some (.cells (List.toArray [.int .i64 0, .int .i64 0, .int .i64 0, .int .i64 0, .int .i64 0, .int .i64 0, .int .i64 0, .int .i64 0, .int .i64 0, .int .i64 0, .bool false, .slice none 0 0, .slice none 0 0, .slice none 0 0, .slice none 0 0, .slice none 0 0, .slice none 0 0, .slice none 0 0]) 68 (0, 0)) := h9a
      have hR3 : edP n va (fun b => 0 ≤ b ∧ b < 0) [.int .i64 0, .int .i64 0, .int .i64 0, .int .i64 0, .int .i64 0, .int .i64 0, .int .i64 0, .int .i64 0, .int .i64 0, .int .i64 0, .bool false, .slice none 0 0, .slice none 0 0, .slice none 0 0, .slice none 0 0, .slice none 0 0, .slice none 0 0, .slice none 0 0] x1 := by rw [hxx.out.2.2.1.out q1]; exact ed0_rep n _ _
      clear h9a
      obtain ⟨vs3, hv3, hl3⟩ : ∃ l : List Value, l = [.int .i64 0, .int .i64 0, .int .i64 0, .int .i64 0, .int .i64 0, .int .i64 0, .int .i64 0, .int .i64 0, .int .i64 0, .int .i64 0, .bool false, .slice none 0 0, .slice none 0 0, .slice none 0 0, .slice none 0 0, .slice none 0 0, .slice none 0 0, .slice none 0 0] ∧ l.length = 18 := ⟨_, rfl, rfl⟩
      rw [← hv3] at h9' hR3
      clear hv3
      have d2 : (E2 != 0) = true := by simpa using q2
      have HF := Lib.hid (And.intro HB (And.intro hR1 (And.intro hR2 (And.intro hb1 (And.intro hb2 (And.intro hR3 (And.intro hR4 (And.intro h9' h10'))))))))
      clear HB hR1 hR2 hb1 hb2 hR3 hR4 h9' h10'
      go_upto_region 11 with fail
      obtain ⟨HB, hR1, hR2, hb1, hb2, hR3, hR4, h9', h10'⟩ := HF.out
      clear HF
      refine wp_region_seq0 (by rfl) ?_
      simp only [List.map]
      refine sq_pure (.agg #[.int .i64 0, .int .i64 0, .int .i64 0, .int .i64 0, .slice none 0 0, .slice none 0 0, .slice none 0 0, .slice none 0 0, .int .i64 0, .int .i64 0, .slice none 0 0, .slice none 0 0, .slice none 0 0, .slice none 0 0, .slice none 0 0, .slice none 0 0, .slice none 0 0, .slice none 0 0, .slice none 0 0, .slice none 0 0, .int .i64 0, .int .i64 0, .slice none 0 0, .slice none 0 0, .slice none 0 0, .slice none 0 0, .slice none 0 0, .slice none 0 0]) (by go_simp) trivial ?_
      simp only [Act.put, List.setIfInBounds_toArray, List.set_cons_zero, List.set_cons_succ]
      refine sq_store_row 77 _ _ rfl rfl (M4 + 1) 77 _ [.int .i64 0, .int .i64 0, .int .i64 0, .int .i64 0, .slice none 0 0, .slice none 0 0, .slice none 0 0, .slice none 0 0, .int .i64 0, .int .i64 0, .slice none 0 0, .slice none 0 0, .slice none 0 0, .slice none 0 0, .slice none 0 0, .slice none 0 0, .slice none 0 0, .slice none 0 0, .slice none 0 0, .slice none 0 0, .int .i64 0, .int .i64 0, .slice none 0 0, .slice none 0 0, .slice none 0 0, .slice none 0 0, .slice none 0 0, .slice none 0 0] rfl rfl h10' size77 (one_sp n va (fun _ => False) _ _ (sp0_rep n _ _)) (by rw [List.size_toArray, hl4]; rfl) ?_
      intro vb h10a hg
      clear h10' hR4
      have hsb : M4 + 2 ≤ vb.heap.size := Nat.le_trans hsa hg.size
      replace HB := HB.trans (below_store (by omega) hg (by omega))
      replace hR1 := rep_gap (stb_ed n) hR1 hg (by omega)
      replace hb1 := (hg.block _ (lt_of_blk hb1) (fun q => by injection q with q; omega)).trans hb1
      replace hR2 := rep_gap (stb_sp n) hR2 hg (by omega)
      replace hb2 := (hg.block _ (lt_of_blk hb2) (fun q => by injection q with q; omega)).trans hb2
      replace h9' := (hg.block _ (lt_of_blk h9') (fun q => by injection q with q; omega)).trans h9'
      replace hR3 := rep_gap (stb_ed n) hR3 hg (by omega)
      clear hg hsa
      refine ⟨trivial, sq_done ?_⟩
      have h10' : vb.heap[M4 + 1]? = some (.cells (List.toArray [.int .i64 0, .int .i64 0, .int .i64 0, .int .i64 0, .slice none 0 0, .slice none 0 0, .slice none 0 0, .slice none 0 0, .int .i64 0, .int .i64 0, .slice none 0 0, .slice none 0 0, .slice none 0 0, .slice none 0 0, .slice none 0 0, .slice none 0 0, .slice none 0 0, .slice none 0 0, .slice none 0 0, .slice none 0 0, .int .i64 0, .int .i64 0, .slice none 0 0, .slice none 0 0, .slice none 0 0, .slice none 0 0, .slice none 0 0, .slice none 0 0]) 77 (0, 0)) := h10a
      have hR4 : spP n vb (fun b => 0 ≤ b ∧ b < 0) [.int .i64 0, .int .i64 0, .int .i64 0, .int .i64 0, .slice none 0 0, .slice none 0 0, .slice none 0 0, .slice none 0 0, .int .i64 0, .int .i64 0, .slice none 0 0, .slice none 0 0, .slice none 0 0, .slice none 0 0, .slice none 0 0, .slice none 0 0, .slice none 0 0, .slice none 0 0, .slice none 0 0, .slice none 0 0, .int .i64 0, .int .i64 0, .slice none 0 0, .slice none 0 0, .slice none 0 0, .slice none 0 0, .slice none 0 0, .slice none 0 0] x2 := by rw [hxx.out.2.2.2.out q2]; exact sp0_rep n _ _
      clear h10a
      obtain ⟨vs4, hv4, hl4⟩ : ∃ l : List Value, l = [.int .i64 0, .int .i64 0, .int .i64 0, .int .i64 0, .slice none 0 0, .slice none 0 0, .slice none 0 0, .slice none 0 0, .int .i64 0, .int .i64 0, .slice none 0 0, .slice none 0 0, .slice none 0 0, .slice none 0 0, .slice none 0 0, .slice none 0 0, .slice none 0 0, .slice none 0 0, .slice none 0 0, .slice none 0 0, .int .i64 0, .int .i64 0, .slice none 0 0, .slice none 0 0, .slice none 0 0, .slice none 0 0, .slice none 0 0, .slice none 0 0] ∧ l.length = 28 := ⟨_, rfl, rfl⟩
      rw [← hv4] at h10' hR4
      clear hv4
      clear hxx HW1 HW2
      have C1 : Hid (∀ W, Below vb.heap.size vb W → Calls Tryz.prog 32 #[.agg (List.toArray vs1)] W (fun e w' => e = .returned (.string PE) ∧ Below W.heap.size W w')) := Lib.hid (fun W hW => by rw [HPE.out]; exact str_edit n _ W _ x1 (rep_below (stb_ed n) hR1 hW (by omega)) (fun b hb => by obtain ⟨hb1, hb2⟩ := hb; have := hW.size; omega) Hz1.out)
      have C3 : Hid (∀ W, Below vb.heap.size vb W → Calls Tryz.prog 32 #[.agg (List.toArray vs3)] W (fun e w' => e = .returned (.string PE) ∧ Below W.heap.size W w')) := Lib.hid (fun W hW => by rw [HPE.out]; exact str_edit n _ W _ x1 (rep_below (stb_ed n) hR3 hW (by omega)) (fun b hb => by obtain ⟨hb1, hb2⟩ := hb; have := hW.size; omega) Hz1.out)
      have C2 : Hid (∀ W, Below vb.heap.size vb W → Calls Tryz.prog 36 #[.agg (List.toArray vs2)] W (fun e w' => e = .returned (.string PS) ∧ Below W.heap.size W w')) := Lib.hid (fun W hW => by rw [HPS.out]; exact str_splice n _ W _ x2 (rep_below (stb_sp n) hR2 hW (by omega)) (fun b hb => by obtain ⟨hb1, hb2⟩ := hb; have := hW.size; omega) Hz2.out)
      have C4 : Hid (∀ W, Below vb.heap.size vb W → Calls Tryz.prog 36 #[.agg (List.toArray vs4)] W (fun e w' => e = .returned (.string PS) ∧ Below W.heap.size W w')) := Lib.hid (fun W hW => by rw [HPS.out]; exact str_splice n _ W _ x2 (rep_below (stb_sp n) hR4 hW (by omega)) (fun b hb => by obtain ⟨hb1, hb2⟩ := hb; have := hW.size; omega) Hz2.out)
      have D1 : Hid (∀ W, Below vb.heap.size vb W → Calls Tryz.prog 30 #[.agg (List.toArray vs1)] W (fun e w' => e = .returned (.string PE) ∧ Below W.heap.size W w')) := Lib.hid (fun W hW => by rw [HPE.out]; exact EncEdit30 n _ W _ x1 (rep_below (stb_ed n) hR1 hW (by omega)) (fun b hb => by obtain ⟨hb1, hb2⟩ := hb; have := hW.size; omega) Hz1.out)
      have D2 : Hid (∀ W, Below vb.heap.size vb W → Calls Tryz.prog 34 #[.agg (List.toArray vs2)] W (fun e w' => e = .returned (.string PS) ∧ Below W.heap.size W w')) := Lib.hid (fun W hW => by rw [HPS.out]; exact EncSplice34 n _ W _ x2 (rep_below (stb_sp n) hR2 hW (by omega)) (fun b hb => by obtain ⟨hb1, hb2⟩ := hb; have := hW.size; omega) Hz2.out)
      have HBh := Lib.hid HB
      clear HB hR1 hR2 hR3 hR4 HPE HPS Hz1 Hz2
      have S1 : (Tryz.prog.info? 68).map (·.size) = some (List.toArray vs1).size := by rw [List.size_toArray, hl1]; exact size68
      have S3 : (Tryz.prog.info? 68).map (·.size) = some (List.toArray vs3).size := by rw [List.size_toArray, hl3]; exact size68
      have S2 : (Tryz.prog.info? 77).map (·.size) = some (List.toArray vs2).size := by rw [List.size_toArray, hl2]; exact size77
      have S4 : (Tryz.prog.info? 77).map (·.size) = some (List.toArray vs4).size := by rw [List.size_toArray, hl4]; exact size77
      have T1 := Lib.hid (And.intro hb1 S1)
      have T2 := Lib.hid (And.intro hb2 S2)
      have T3 := Lib.hid (And.intro h9' S3)
      have T4 := Lib.hid (And.intro h10' S4)
      clear hb1 hb2 h9' h10' S1 S2 S3 S4 hl1 hl2 hl3 hl4 ho1 ho2 ho3 ho4
      go_upto_region 12 with fail
      have hS : Below vb.heap.size vb vb.drew := (Below.refl _ _).drew
      refine wp_region_guard (S := fun w' => Below vb.heap.size vb w') [(true, 0), (true, 2), (false, 1), (false, 3), (true, 4), (true, 5), (true, 6), (true, 8), (false, 7), (false, 9), (true, 10), (true, 11), (true, 12), (true, 13), (true, 14), (true, 15), (true, 16), (true, 18), (false, 17), (true, 19), (true, 20), (true, 21), (true, 22), (true, 23), (true, 24), (true, 25), (true, 26), (true, 28), (false, 27), (true, 29), (true, 30), (true, 31), (true, 32)] (by kernel_rfl) (by kernel_rfl) hS ?_
      simp only [pickL, List.getElem?_cons_succ, List.getElem?_cons_zero]
      refine hd_load (.agg (List.toArray vs1)) rfl (fun w' hS => by exact run_row 68 _ rfl (M1) 68 _ _ (by first | rfl | (rw [hM1]; rfl) | (rw [hM2]; rfl)) ((hS.block _ (lt_of_blk T1.out.1)).trans T1.out.1) Tryz.underlying68 rfl T1.out.2) ?_
      simp only [Act.put, List.setIfInBounds_toArray, List.set_cons_zero, List.set_cons_succ]
      refine hd_load (.agg (List.toArray vs3)) rfl (fun w' hS => by exact run_row 68 _ rfl (M4) 68 _ _ (by first | rfl | (rw [hM1]; rfl) | (rw [hM2]; rfl)) ((hS.block _ (lt_of_blk T3.out.1)).trans T3.out.1) Tryz.underlying68 rfl T3.out.2) ?_
      simp only [Act.put, List.setIfInBounds_toArray, List.set_cons_zero, List.set_cons_succ]
      refine hd_run rfl ?_
      refine sq_call 32 #[.agg (List.toArray vs1)] (by go_simp) ?_
      refine Calls.mono (C1.out _ hS) ?_
      rintro e wz1 ⟨rfl, hbz⟩
      replace hS := hS.trans (hbz.mono hS.size)
      clear hbz
      refine ⟨_, rfl, hS, ?_⟩
      refine sq_done ?_
      simp only [Act.put, List.setIfInBounds_toArray, List.set_cons_zero, List.set_cons_succ]
      refine hd_run rfl ?_
      refine sq_call 32 #[.agg (List.toArray vs3)] (by go_simp) ?_
      refine Calls.mono (C3.out _ hS) ?_
      rintro e wz3 ⟨rfl, hbz⟩
      replace hS := hS.trans (hbz.mono hS.size)
      clear hbz
      refine ⟨_, rfl, hS, ?_⟩
      refine sq_done ?_
      simp only [Act.put, List.setIfInBounds_toArray, List.set_cons_zero, List.set_cons_succ]
      refine hd_load (.bool true) rfl (fun w' hS => by go_simp) ?_
      simp only [Act.put, List.setIfInBounds_toArray, List.set_cons_zero, List.set_cons_succ]
      refine hd_load (.bool true) rfl (fun w' hS => by go_simp) ?_
      simp only [Act.put, List.setIfInBounds_toArray, List.set_cons_zero, List.set_cons_succ]
      refine hd_load (.agg (List.toArray vs2)) rfl (fun w' hS => by exact run_row 77 _ rfl (M2) 77 _ _ (by first | rfl | (rw [hM1]; rfl) | (rw [hM2]; rfl)) ((hS.block _ (lt_of_blk T2.out.1)).trans T2.out.1) Tryz.underlying77 rfl T2.out.2) ?_
      simp only [Act.put, List.setIfInBounds_toArray, List.set_cons_zero, List.set_cons_succ]
      refine hd_load (.agg (List.toArray vs4)) rfl (fun w' hS => by exact run_row 77 _ rfl (M4 + 1) 77 _ _ (by first | rfl | (rw [hM1]; rfl) | (rw [hM2]; rfl)) ((hS.block _ (lt_of_blk T4.out.1)).trans T4.out.1) Tryz.underlying77 rfl T4.out.2) ?_
      simp only [Act.put, List.setIfInBounds_toArray, List.set_cons_zero, List.set_cons_succ]
      refine hd_run rfl ?_
      refine sq_call 36 #[.agg (List.toArray vs2)] (by go_simp) ?_
      refine Calls.mono (C2.out _ hS) ?_
      rintro e wz7 ⟨rfl, hbz⟩
      replace hS := hS.trans (hbz.mono hS.size)
      clear hbz
      refine ⟨_, rfl, hS, ?_⟩
      refine sq_done ?_
      simp only [Act.put, List.setIfInBounds_toArray, List.set_cons_zero, List.set_cons_succ]
      refine hd_run rfl ?_
      refine sq_call 36 #[.agg (List.toArray vs4)] (by go_simp) ?_
      refine Calls.mono (C4.out _ hS) ?_
      rintro e wz9 ⟨rfl, hbz⟩
      replace hS := hS.trans (hbz.mono hS.size)
      clear hbz
      refine ⟨_, rfl, hS, ?_⟩
      refine sq_done ?_
      simp only [Act.put, List.setIfInBounds_toArray, List.set_cons_zero, List.set_cons_succ]
      refine hd_load (.bool true) rfl (fun w' hS => by go_simp) ?_
      simp only [Act.put, List.setIfInBounds_toArray, List.set_cons_zero, List.set_cons_succ]
      refine hd_load (.bool true) rfl (fun w' hS => by go_simp) ?_
      simp only [Act.put, List.setIfInBounds_toArray, List.set_cons_zero, List.set_cons_succ]
      refine hd_load (.bool true) rfl (fun w' hS => by go_simp) ?_
      simp only [Act.put, List.setIfInBounds_toArray, List.set_cons_zero, List.set_cons_succ]
      refine hd_load (.int .i64 E1) rfl (fun w' hS => by go_simp) ?_
      simp only [Act.put, List.setIfInBounds_toArray, List.set_cons_zero, List.set_cons_succ]
      refine hd_load (.bool true) rfl (fun w' hS => by go_simp) ?_
      simp only [Act.put, List.setIfInBounds_toArray, List.set_cons_zero, List.set_cons_succ]
      refine hd_load (.bool true) rfl (fun w' hS => by go_simp) ?_
      simp only [Act.put, List.setIfInBounds_toArray, List.set_cons_zero, List.set_cons_succ]
      refine hd_off rfl ?_
      simp only [Act.put, List.setIfInBounds_toArray, List.set_cons_zero, List.set_cons_succ]
      refine hd_off rfl ?_
      simp only [Act.put, List.setIfInBounds_toArray, List.set_cons_zero, List.set_cons_succ]
      refine hd_offs rfl hS ?_
      simp only [Act.put, List.setIfInBounds_toArray, List.set_cons_zero, List.set_cons_succ]
      refine hd_off rfl ?_
      simp only [Act.put, List.setIfInBounds_toArray, List.set_cons_zero, List.set_cons_succ]
      refine hd_load (.bool true) rfl (fun w' hS => by go_simp) ?_
      simp only [Act.put, List.setIfInBounds_toArray, List.set_cons_zero, List.set_cons_succ]
      refine hd_load (.bool true) rfl (fun w' hS => by go_simp) ?_
      simp only [Act.put, List.setIfInBounds_toArray, List.set_cons_zero, List.set_cons_succ]
      refine hd_load (.bool true) rfl (fun w' hS => by go_simp) ?_
      simp only [Act.put, List.setIfInBounds_toArray, List.set_cons_zero, List.set_cons_succ]
      refine hd_load (.int .i64 E2) rfl (fun w' hS => by go_simp) ?_
      simp only [Act.put, List.setIfInBounds_toArray, List.set_cons_zero, List.set_cons_succ]
      refine hd_load (.bool true) rfl (fun w' hS => by go_simp) ?_
      simp only [Act.put, List.setIfInBounds_toArray, List.set_cons_zero, List.set_cons_succ]
      refine hd_load (.bool true) rfl (fun w' hS => by go_simp) ?_
      simp only [Act.put, List.setIfInBounds_toArray, List.set_cons_zero, List.set_cons_succ]
      refine hd_off rfl ?_
      simp only [Act.put, List.setIfInBounds_toArray, List.set_cons_zero, List.set_cons_succ]
      refine hd_off rfl ?_
      simp only [Act.put, List.setIfInBounds_toArray, List.set_cons_zero, List.set_cons_succ]
      refine hd_offs rfl hS ?_
      simp only [Act.put, List.setIfInBounds_toArray, List.set_cons_zero, List.set_cons_succ]
      refine hd_off rfl ?_
      simp only [Act.put, List.setIfInBounds_toArray, List.set_cons_zero, List.set_cons_succ]
      refine hd_load (.bool true) rfl (fun w' hS => by go_simp) ?_
      simp only [Act.put, List.setIfInBounds_toArray, List.set_cons_zero, List.set_cons_succ]
      refine hd_load (.bool true) rfl (fun w' hS => by go_simp) ?_
      simp only [Act.put, List.setIfInBounds_toArray, List.set_cons_zero, List.set_cons_succ]
      refine hd_load (.bool true) rfl (fun w' hS => by go_simp) ?_
      simp only [Act.put, List.setIfInBounds_toArray, List.set_cons_zero, List.set_cons_succ]
      refine hd_done ?_
      have HBz := Lib.hid (HBh.out.trans (hS.mono (by rw [hN0]; exact HBh.out.size)))
      clear hS C1 C2 C3 C4 D1 D2 T1 T2 T3 T4
      go_wp2_with fail
      go_ret
      rw [hN0] at HBz
      exact ⟨rfl, HBz.out⟩
    · have d1 : (E1 != 0) = true := by simpa using q1
      have HF := Lib.hid (And.intro HB (And.intro hR1 (And.intro hR2 (And.intro hb1 (And.intro hb2 (And.intro hR3 (And.intro hR4 (And.intro h9' h10'))))))))
      clear HB hR1 hR2 hb1 hb2 hR3 hR4 h9' h10'
      go_upto_region 9 with fail
      obtain ⟨HB, hR1, hR2, hb1, hb2, hR3, hR4, h9', h10'⟩ := HF.out
      clear HF
      refine wp_region_seq0 (by rfl) ?_
      simp only [List.map]
      refine sq_pure (.agg #[.int .i64 0, .int .i64 0, .int .i64 0, .int .i64 0, .int .i64 0, .int .i64 0, .int .i64 0, .int .i64 0, .int .i64 0, .int .i64 0, .bool false, .slice none 0 0, .slice none 0 0, .slice none 0 0, .slice none 0 0, .slice none 0 0, .slice none 0 0, .slice none 0 0]) (by go_simp) trivial ?_
      simp only [Act.put, List.setIfInBounds_toArray, List.set_cons_zero, List.set_cons_succ]
      refine sq_store_row 68 _ _ rfl rfl M4 68 _ [.int .i64 0, .int .i64 0, .int .i64 0, .int .i64 0, .int .i64 0, .int .i64 0, .int .i64 0, .int .i64 0, .int .i64 0, .int .i64 0, .bool false, .slice none 0 0, .slice none 0 0, .slice none 0 0, .slice none 0 0, .slice none 0 0, .slice none 0 0, .slice none 0 0] rfl rfl h9' size68 (one_ed n v11 (fun _ => False) _ _ (ed0_rep n _ _)) (by rw [List.size_toArray, hl3]; rfl) ?_
      intro va h9a hg
      clear h9' hR3
      have hsa : M4 + 2 ≤ va.heap.size := Nat.le_trans hs11 hg.size
      replace HB := HB.trans (below_store (by omega) hg (by omega))
      replace hR1 := rep_gap (stb_ed n) hR1 hg (by omega)
      replace hb1 := (hg.block _ (lt_of_blk hb1) (fun q => by injection q with q; omega)).trans hb1
      replace hR2 := rep_gap (stb_sp n) hR2 hg (by omega)
      replace hb2 := (hg.block _ (lt_of_blk hb2) (fun q => by injection q with q; omega)).trans hb2
      replace hR4 := rep_gap (stb_sp n) hR4 hg (by omega)
      replace h10' := (hg.block _ (lt_of_blk h10') (fun q => by injection q with q; omega)).trans h10'
      clear hg hs11
      refine ⟨trivial, sq_done ?_⟩
      have h9' : va.heap[M4]? = some (.cells (List.toArray [.int .i64 0, .int .i64 0, .int .i64 0, .int .i64 0, .int .i64 0, .int .i64 0, .int .i64 0, .int .i64 0, .int .i64 0, .int .i64 0, .bool false, .slice none 0 0, .slice none 0 0, .slice none 0 0, .slice none 0 0, .slice none 0 0, .slice none 0 0, .slice none 0 0]) 68 (0, 0)) := h9a
      have hR3 : edP n va (fun b => 0 ≤ b ∧ b < 0) [.int .i64 0, .int .i64 0, .int .i64 0, .int .i64 0, .int .i64 0, .int .i64 0, .int .i64 0, .int .i64 0, .int .i64 0, .int .i64 0, .bool false, .slice none 0 0, .slice none 0 0, .slice none 0 0, .slice none 0 0, .slice none 0 0, .slice none 0 0, .slice none 0 0] x1 := by rw [hxx.out.2.2.1.out q1]; exact ed0_rep n _ _
      clear h9a
      obtain ⟨vs3, hv3, hl3⟩ : ∃ l : List Value, l = [.int .i64 0, .int .i64 0, .int .i64 0, .int .i64 0, .int .i64 0, .int .i64 0, .int .i64 0, .int .i64 0, .int .i64 0, .int .i64 0, .bool false, .slice none 0 0, .slice none 0 0, .slice none 0 0, .slice none 0 0, .slice none 0 0, .slice none 0 0, .slice none 0 0] ∧ l.length = 18 := ⟨_, rfl, rfl⟩
      rw [← hv3] at h9' hR3
      clear hv3
      subst q2
      have q2 := hxx.out.2.1.out rfl
      rw [q2] at hR4
      clear q2
      have q2 := HW2.out rfl
      have hsb := hsa
      clear hsa
      have d2 : ((0 : Int) != 0) = false := by simp
      clear hxx HW1 HW2
      have C1 : Hid (∀ W, Below va.heap.size va W → Calls Tryz.prog 32 #[.agg (List.toArray vs1)] W (fun e w' => e = .returned (.string PE) ∧ Below W.heap.size W w')) := Lib.hid (fun W hW => by rw [HPE.out]; exact str_edit n _ W _ x1 (rep_below (stb_ed n) hR1 hW (by omega)) (fun b hb => by obtain ⟨hb1, hb2⟩ := hb; have := hW.size; omega) Hz1.out)
      have C3 : Hid (∀ W, Below va.heap.size va W → Calls Tryz.prog 32 #[.agg (List.toArray vs3)] W (fun e w' => e = .returned (.string PE) ∧ Below W.heap.size W w')) := Lib.hid (fun W hW => by rw [HPE.out]; exact str_edit n _ W _ x1 (rep_below (stb_ed n) hR3 hW (by omega)) (fun b hb => by obtain ⟨hb1, hb2⟩ := hb; have := hW.size; omega) Hz1.out)
      have C2 : Hid (∀ W, Below va.heap.size va W → Calls Tryz.prog 36 #[.agg (List.toArray vs2)] W (fun e w' => e = .returned (.string PS) ∧ Below W.heap.size W w')) := Lib.hid (fun W hW => by rw [HPS.out]; exact str_splice n _ W _ x2 (rep_below (stb_sp n) hR2 hW (by omega)) (fun b hb => by obtain ⟨hb1, hb2⟩ := hb; have := hW.size; omega) Hz2.out)
      have C4 : Hid (∀ W, Below va.heap.size va W → Calls Tryz.prog 36 #[.agg (List.toArray vs4)] W (fun e w' => e = .returned (.string PS) ∧ Below W.heap.size W w')) := Lib.hid (fun W hW => by rw [HPS.out]; exact str_splice n _ W _ x2 (rep_below (stb_sp n) hR4 hW (by omega)) (fun b hb => by obtain ⟨hb1, hb2⟩ := hb; have := hW.size; omega) Hz2.out)
      have D1 : Hid (∀ W, Below va.heap.size va W → Calls Tryz.prog 30 #[.agg (List.toArray vs1)] W (fun e w' => e = .returned (.string PE) ∧ Below W.heap.size W w')) := Lib.hid (fun W hW => by rw [HPE.out]; exact EncEdit30 n _ W _ x1 (rep_below (stb_ed n) hR1 hW (by omega)) (fun b hb => by obtain ⟨hb1, hb2⟩ := hb; have := hW.size; omega) Hz1.out)
      have D2 : Hid (∀ W, Below va.heap.size va W → Calls Tryz.prog 34 #[.agg (List.toArray vs2)] W (fun e w' => e = .returned (.string PS) ∧ Below W.heap.size W w')) := Lib.hid (fun W hW => by rw [HPS.out]; exact EncSplice34 n _ W _ x2 (rep_below (stb_sp n) hR2 hW (by omega)) (fun b hb => by obtain ⟨hb1, hb2⟩ := hb; have := hW.size; omega) Hz2.out)
      have HBh := Lib.hid HB
      clear HB hR1 hR2 hR3 hR4 HPE HPS Hz1 Hz2
      rw [q2] at C2 C4 D2
      have S1 : (Tryz.prog.info? 68).map (·.size) = some (List.toArray vs1).size := by rw [List.size_toArray, hl1]; exact size68
      have S3 : (Tryz.prog.info? 68).map (·.size) = some (List.toArray vs3).size := by rw [List.size_toArray, hl3]; exact size68
      have S2 : (Tryz.prog.info? 77).map (·.size) = some (List.toArray vs2).size := by rw [List.size_toArray, hl2]; exact size77
      have S4 : (Tryz.prog.info? 77).map (·.size) = some (List.toArray vs4).size := by rw [List.size_toArray, hl4]; exact size77
      have T1 := Lib.hid (And.intro hb1 S1)
      have T2 := Lib.hid (And.intro hb2 S2)
      have T3 := Lib.hid (And.intro h9' S3)
      have T4 := Lib.hid (And.intro h10' S4)
      clear hb1 hb2 h9' h10' S1 S2 S3 S4 hl1 hl2 hl3 hl4 ho1 ho2 ho3 ho4
      go_upto_region 12 with fail
      have hS : Below va.heap.size va va.drew := (Below.refl _ _).drew
      refine wp_region_guard (S := fun w' => Below va.heap.size va w') [(true, 0), (true, 2), (false, 1), (false, 3), (true, 4), (true, 5), (true, 6), (true, 8), (false, 7), (false, 9), (true, 10), (true, 11), (true, 12), (true, 13), (true, 14), (true, 15), (true, 16), (true, 18), (false, 17), (true, 19), (true, 20), (true, 21), (true, 22), (true, 23), (true, 24), (true, 25), (true, 26), (true, 28), (false, 27), (true, 29), (true, 30), (true, 31), (true, 32)] (by kernel_rfl) (by kernel_rfl) hS ?_
      simp only [pickL, List.getElem?_cons_succ, List.getElem?_cons_zero]
      refine hd_load (.agg (List.toArray vs1)) rfl (fun w' hS => by exact run_row 68 _ rfl (M1) 68 _ _ (by first | rfl | (rw [hM1]; rfl) | (rw [hM2]; rfl)) ((hS.block _ (lt_of_blk T1.out.1)).trans T1.out.1) Tryz.underlying68 rfl T1.out.2) ?_
      simp only [Act.put, List.setIfInBounds_toArray, List.set_cons_zero, List.set_cons_succ]
      refine hd_load (.agg (List.toArray vs3)) rfl (fun w' hS => by exact run_row 68 _ rfl (M4) 68 _ _ (by first | rfl | (rw [hM1]; rfl) | (rw [hM2]; rfl)) ((hS.block _ (lt_of_blk T3.out.1)).trans T3.out.1) Tryz.underlying68 rfl T3.out.2) ?_
      simp only [Act.put, List.setIfInBounds_toArray, List.set_cons_zero, List.set_cons_succ]
      refine hd_run rfl ?_
      refine sq_call 32 #[.agg (List.toArray vs1)] (by go_simp) ?_
      refine Calls.mono (C1.out _ hS) ?_
      rintro e wz1 ⟨rfl, hbz⟩
      replace hS := hS.trans (hbz.mono hS.size)
      clear hbz
      refine ⟨_, rfl, hS, ?_⟩
      refine sq_done ?_
      simp only [Act.put, List.setIfInBounds_toArray, List.set_cons_zero, List.set_cons_succ]
      refine hd_run rfl ?_
      refine sq_call 32 #[.agg (List.toArray vs3)] (by go_simp) ?_
      refine Calls.mono (C3.out _ hS) ?_
      rintro e wz3 ⟨rfl, hbz⟩
      replace hS := hS.trans (hbz.mono hS.size)
      clear hbz
      refine ⟨_, rfl, hS, ?_⟩
      refine sq_done ?_
      simp only [Act.put, List.setIfInBounds_toArray, List.set_cons_zero, List.set_cons_succ]
      refine hd_load (.bool true) rfl (fun w' hS => by go_simp) ?_
      simp only [Act.put, List.setIfInBounds_toArray, List.set_cons_zero, List.set_cons_succ]
      refine hd_load (.bool true) rfl (fun w' hS => by go_simp) ?_
      simp only [Act.put, List.setIfInBounds_toArray, List.set_cons_zero, List.set_cons_succ]
      refine hd_load (.agg (List.toArray vs2)) rfl (fun w' hS => by exact run_row 77 _ rfl (M2) 77 _ _ (by first | rfl | (rw [hM1]; rfl) | (rw [hM2]; rfl)) ((hS.block _ (lt_of_blk T2.out.1)).trans T2.out.1) Tryz.underlying77 rfl T2.out.2) ?_
      simp only [Act.put, List.setIfInBounds_toArray, List.set_cons_zero, List.set_cons_succ]
      refine hd_load (.agg (List.toArray vs4)) rfl (fun w' hS => by exact run_row 77 _ rfl (M4 + 1) 77 _ _ (by first | rfl | (rw [hM1]; rfl) | (rw [hM2]; rfl)) ((hS.block _ (lt_of_blk T4.out.1)).trans T4.out.1) Tryz.underlying77 rfl T4.out.2) ?_
      simp only [Act.put, List.setIfInBounds_toArray, List.set_cons_zero, List.set_cons_succ]
      refine hd_run rfl ?_
      refine sq_call 36 #[.agg (List.toArray vs2)] (by go_simp) ?_
      refine Calls.mono (C2.out _ hS) ?_
      rintro e wz7 ⟨rfl, hbz⟩
      replace hS := hS.trans (hbz.mono hS.size)
      clear hbz
      refine ⟨_, rfl, hS, ?_⟩
      refine sq_done ?_
      simp only [Act.put, List.setIfInBounds_toArray, List.set_cons_zero, List.set_cons_succ]
      refine hd_run rfl ?_
      refine sq_call 36 #[.agg (List.toArray vs4)] (by go_simp) ?_
      refine Calls.mono (C4.out _ hS) ?_
      rintro e wz9 ⟨rfl, hbz⟩
      replace hS := hS.trans (hbz.mono hS.size)
      clear hbz
      refine ⟨_, rfl, hS, ?_⟩
      refine sq_done ?_
      simp only [Act.put, List.setIfInBounds_toArray, List.set_cons_zero, List.set_cons_succ]
      refine hd_load (.bool true) rfl (fun w' hS => by go_simp) ?_
      simp only [Act.put, List.setIfInBounds_toArray, List.set_cons_zero, List.set_cons_succ]
      refine hd_load (.bool true) rfl (fun w' hS => by go_simp) ?_
      simp only [Act.put, List.setIfInBounds_toArray, List.set_cons_zero, List.set_cons_succ]
      refine hd_load (.bool true) rfl (fun w' hS => by go_simp) ?_
      simp only [Act.put, List.setIfInBounds_toArray, List.set_cons_zero, List.set_cons_succ]
      refine hd_load (.int .i64 E1) rfl (fun w' hS => by go_simp) ?_
      simp only [Act.put, List.setIfInBounds_toArray, List.set_cons_zero, List.set_cons_succ]
      refine hd_load (.bool true) rfl (fun w' hS => by go_simp) ?_
      simp only [Act.put, List.setIfInBounds_toArray, List.set_cons_zero, List.set_cons_succ]
      refine hd_load (.bool true) rfl (fun w' hS => by go_simp) ?_
      simp only [Act.put, List.setIfInBounds_toArray, List.set_cons_zero, List.set_cons_succ]
      refine hd_off rfl ?_
      simp only [Act.put, List.setIfInBounds_toArray, List.set_cons_zero, List.set_cons_succ]
      refine hd_off rfl ?_
      simp only [Act.put, List.setIfInBounds_toArray, List.set_cons_zero, List.set_cons_succ]
      refine hd_offs rfl hS ?_
      simp only [Act.put, List.setIfInBounds_toArray, List.set_cons_zero, List.set_cons_succ]
      refine hd_off rfl ?_
      simp only [Act.put, List.setIfInBounds_toArray, List.set_cons_zero, List.set_cons_succ]
      refine hd_load (.bool true) rfl (fun w' hS => by go_simp) ?_
      simp only [Act.put, List.setIfInBounds_toArray, List.set_cons_zero, List.set_cons_succ]
      refine hd_load (.bool true) rfl (fun w' hS => by go_simp) ?_
      simp only [Act.put, List.setIfInBounds_toArray, List.set_cons_zero, List.set_cons_succ]
      refine hd_load (.bool true) rfl (fun w' hS => by go_simp) ?_
      simp only [Act.put, List.setIfInBounds_toArray, List.set_cons_zero, List.set_cons_succ]
      refine hd_load (.int .i64 0) rfl (fun w' hS => by go_simp) ?_
      simp only [Act.put, List.setIfInBounds_toArray, List.set_cons_zero, List.set_cons_succ]
      refine hd_load (.bool false) rfl (fun w' hS => by go_simp) ?_
      simp only [Act.put, List.setIfInBounds_toArray, List.set_cons_zero, List.set_cons_succ]
      refine hd_load (.bool false) rfl (fun w' hS => by go_simp) ?_
      simp only [Act.put, List.setIfInBounds_toArray, List.set_cons_zero, List.set_cons_succ]
      refine hd_load (.agg (List.toArray vs2)) rfl (fun w' hS => by exact run_row 77 _ rfl (M2) 77 _ _ (by first | rfl | (rw [hM1]; rfl) | (rw [hM2]; rfl)) ((hS.block _ (lt_of_blk T2.out.1)).trans T2.out.1) Tryz.underlying77 rfl T2.out.2) ?_
      simp only [Act.put, List.setIfInBounds_toArray, List.set_cons_zero, List.set_cons_succ]
      refine hd_load (.string t) rfl (fun w' hS => by go_simp) ?_
      simp only [Act.put, List.setIfInBounds_toArray, List.set_cons_zero, List.set_cons_succ]
      refine hd_run rfl ?_
      refine sq_call 34 #[.agg (List.toArray vs2)] (by go_simp) ?_
      refine Calls.mono (D2.out _ hS) ?_
      rintro e wz27 ⟨rfl, hbz⟩
      replace hS := hS.trans (hbz.mono hS.size)
      clear hbz
      refine ⟨_, rfl, hS, ?_⟩
      refine sq_done ?_
      simp only [Act.put, List.setIfInBounds_toArray, List.set_cons_zero, List.set_cons_succ]
      refine hd_load (.bool true) rfl (fun w' hS => by go_simp) ?_
      simp only [Act.put, List.setIfInBounds_toArray, List.set_cons_zero, List.set_cons_succ]
      refine hd_load (.bool true) rfl (fun w' hS => by go_simp) ?_
      simp only [Act.put, List.setIfInBounds_toArray, List.set_cons_zero, List.set_cons_succ]
      refine hd_load (.bool true) rfl (fun w' hS => by go_simp) ?_
      simp only [Act.put, List.setIfInBounds_toArray, List.set_cons_zero, List.set_cons_succ]
      refine hd_load (.bool true) rfl (fun w' hS => by go_simp) ?_
      simp only [Act.put, List.setIfInBounds_toArray, List.set_cons_zero, List.set_cons_succ]
      refine hd_done ?_
      have HBz := Lib.hid (HBh.out.trans (hS.mono (by rw [hN0]; exact HBh.out.size)))
      clear hS C1 C2 C3 C4 D1 D2 T1 T2 T3 T4
      go_wp2_with fail
      go_ret
      rw [hN0] at HBz
      exact ⟨rfl, HBz.out⟩
  · rcases Int.decEq E2 0 with q2 | q2
    · subst q1
      have q1 := hxx.out.1.out rfl
      rw [q1] at hR3
      clear q1
      have q1 := HW1.out rfl
      have hsa := hs11
      clear hs11
      have d1 : ((0 : Int) != 0) = false := by simp
      have d2 : (E2 != 0) = true := by simpa using q2
      have HF := Lib.hid (And.intro HB (And.intro hR1 (And.intro hR2 (And.intro hb1 (And.intro hb2 (And.intro hR3 (And.intro hR4 (And.intro h9' h10'))))))))
      clear HB hR1 hR2 hb1 hb2 hR3 hR4 h9' h10'
      go_upto_region 11 with fail
      obtain ⟨HB, hR1, hR2, hb1, hb2, hR3, hR4, h9', h10'⟩ := HF.out
      clear HF
      refine wp_region_seq0 (by rfl) ?_
      simp only [List.map]
      refine sq_pure (.agg #[.int .i64 0, .int .i64 0, .int .i64 0, .int .i64 0, .slice none 0 0, .slice none 0 0, .slice none 0 0, .slice none 0 0, .int .i64 0, .int .i64 0, .slice none 0 0, .slice none 0 0, .slice none 0 0, .slice none 0 0, .slice none 0 0, .slice none 0 0, .slice none 0 0, .slice none 0 0, .slice none 0 0, .slice none 0 0, .int .i64 0, .int .i64 0, .slice none 0 0, .slice none 0 0, .slice none 0 0, .slice none 0 0, .slice none 0 0, .slice none 0 0]) (by go_simp) trivial ?_
      simp only [Act.put, List.setIfInBounds_toArray, List.set_cons_zero, List.set_cons_succ]
      refine sq_store_row 77 _ _ rfl rfl (M4 + 1) 77 _ [.int .i64 0, .int .i64 0, .int .i64 0, .int .i64 0, .slice none 0 0, .slice none 0 0, .slice none 0 0, .slice none 0 0, .int .i64 0, .int .i64 0, .slice none 0 0, .slice none 0 0, .slice none 0 0, .slice none 0 0, .slice none 0 0, .slice none 0 0, .slice none 0 0, .slice none 0 0, .slice none 0 0, .slice none 0 0, .int .i64 0, .int .i64 0, .slice none 0 0, .slice none 0 0, .slice none 0 0, .slice none 0 0, .slice none 0 0, .slice none 0 0] rfl rfl h10' size77 (one_sp n v11 (fun _ => False) _ _ (sp0_rep n _ _)) (by rw [List.size_toArray, hl4]; rfl) ?_
      intro vb h10a hg
      clear h10' hR4
      have hsb : M4 + 2 ≤ vb.heap.size := Nat.le_trans hsa hg.size
      replace HB := HB.trans (below_store (by omega) hg (by omega))
      replace hR1 := rep_gap (stb_ed n) hR1 hg (by omega)
      replace hb1 := (hg.block _ (lt_of_blk hb1) (fun q => by injection q with q; omega)).trans hb1
      replace hR2 := rep_gap (stb_sp n) hR2 hg (by omega)
      replace hb2 := (hg.block _ (lt_of_blk hb2) (fun q => by injection q with q; omega)).trans hb2
      replace hR3 := rep_gap (stb_ed n) hR3 hg (by omega)
      replace h9' := (hg.block _ (lt_of_blk h9') (fun q => by injection q with q; omega)).trans h9'
      clear hg hsa
      refine ⟨trivial, sq_done ?_⟩
      have h10' : vb.heap[M4 + 1]? = some (.cells (List.toArray [.int .i64 0, .int .i64 0, .int .i64 0, .int .i64 0, .slice none 0 0, .slice none 0 0, .slice none 0 0, .slice none 0 0, .int .i64 0, .int .i64 0, .slice none 0 0, .slice none 0 0, .slice none 0 0, .slice none 0 0, .slice none 0 0, .slice none 0 0, .slice none 0 0, .slice none 0 0, .slice none 0 0, .slice none 0 0, .int .i64 0, .int .i64 0, .slice none 0 0, .slice none 0 0, .slice none 0 0, .slice none 0 0, .slice none 0 0, .slice none 0 0]) 77 (0, 0)) := h10a
      have hR4 : spP n vb (fun b => 0 ≤ b ∧ b < 0) [.int .i64 0, .int .i64 0, .int .i64 0, .int .i64 0, .slice none 0 0, .slice none 0 0, .slice none 0 0, .slice none 0 0, .int .i64 0, .int .i64 0, .slice none 0 0, .slice none 0 0, .slice none 0 0, .slice none 0 0, .slice none 0 0, .slice none 0 0, .slice none 0 0, .slice none 0 0, .slice none 0 0, .slice none 0 0, .int .i64 0, .int .i64 0, .slice none 0 0, .slice none 0 0, .slice none 0 0, .slice none 0 0, .slice none 0 0, .slice none 0 0] x2 := by rw [hxx.out.2.2.2.out q2]; exact sp0_rep n _ _
      clear h10a
      obtain ⟨vs4, hv4, hl4⟩ : ∃ l : List Value, l = [.int .i64 0, .int .i64 0, .int .i64 0, .int .i64 0, .slice none 0 0, .slice none 0 0, .slice none 0 0, .slice none 0 0, .int .i64 0, .int .i64 0, .slice none 0 0, .slice none 0 0, .slice none 0 0, .slice none 0 0, .slice none 0 0, .slice none 0 0, .slice none 0 0, .slice none 0 0, .slice none 0 0, .slice none 0 0, .int .i64 0, .int .i64 0, .slice none 0 0, .slice none 0 0, .slice none 0 0, .slice none 0 0, .slice none 0 0, .slice none 0 0] ∧ l.length = 28 := ⟨_, rfl, rfl⟩
      rw [← hv4] at h10' hR4
      clear hv4
      clear hxx HW1 HW2
      have C1 : Hid (∀ W, Below vb.heap.size vb W → Calls Tryz.prog 32 #[.agg (List.toArray vs1)] W (fun e w' => e = .returned (.string PE) ∧ Below W.heap.size W w')) := Lib.hid (fun W hW => by rw [HPE.out]; exact str_edit n _ W _ x1 (rep_below (stb_ed n) hR1 hW (by omega)) (fun b hb => by obtain ⟨hb1, hb2⟩ := hb; have := hW.size; omega) Hz1.out)
      have C3 : Hid (∀ W, Below vb.heap.size vb W → Calls Tryz.prog 32 #[.agg (List.toArray vs3)] W (fun e w' => e = .returned (.string PE) ∧ Below W.heap.size W w')) := Lib.hid (fun W hW => by rw [HPE.out]; exact str_edit n _ W _ x1 (rep_below (stb_ed n) hR3 hW (by omega)) (fun b hb => by obtain ⟨hb1, hb2⟩ := hb; have := hW.size; omega) Hz1.out)
      have C2 : Hid (∀ W, Below vb.heap.size vb W → Calls Tryz.prog 36 #[.agg (List.toArray vs2)] W (fun e w' => e = .returned (.string PS) ∧ Below W.heap.size W w')) := Lib.hid (fun W hW => by rw [HPS.out]; exact str_splice n _ W _ x2 (rep_below (stb_sp n) hR2 hW (by omega)) (fun b hb => by obtain ⟨hb1, hb2⟩ := hb; have := hW.size; omega) Hz2.out)
      have C4 : Hid (∀ W, Below vb.heap.size vb W → Calls Tryz.prog 36 #[.agg (List.toArray vs4)] W (fun e w' => e = .returned (.string PS) ∧ Below W.heap.size W w')) := Lib.hid (fun W hW => by rw [HPS.out]; exact str_splice n _ W _ x2 (rep_below (stb_sp n) hR4 hW (by omega)) (fun b hb => by obtain ⟨hb1, hb2⟩ := hb; have := hW.size; omega) Hz2.out)
      have D1 : Hid (∀ W, Below vb.heap.size vb W → Calls Tryz.prog 30 #[.agg (List.toArray vs1)] W (fun e w' => e = .returned (.string PE) ∧ Below W.heap.size W w')) := Lib.hid (fun W hW => by rw [HPE.out]; exact EncEdit30 n _ W _ x1 (rep_below (stb_ed n) hR1 hW (by omega)) (fun b hb => by obtain ⟨hb1, hb2⟩ := hb; have := hW.size; omega) Hz1.out)
      have D2 : Hid (∀ W, Below vb.heap.size vb W → Calls Tryz.prog 34 #[.agg (List.toArray vs2)] W (fun e w' => e = .returned (.string PS) ∧ Below W.heap.size W w')) := Lib.hid (fun W hW => by rw [HPS.out]; exact EncSplice34 n _ W _ x2 (rep_below (stb_sp n) hR2 hW (by omega)) (fun b hb => by obtain ⟨hb1, hb2⟩ := hb; have := hW.size; omega) Hz2.out)
      have HBh := Lib.hid HB
      clear HB hR1 hR2 hR3 hR4 HPE HPS Hz1 Hz2
      rw [q1] at C1 C3 D1
      have S1 : (Tryz.prog.info? 68).map (·.size) = some (List.toArray vs1).size := by rw [List.size_toArray, hl1]; exact size68
      have S3 : (Tryz.prog.info? 68).map (·.size) = some (List.toArray vs3).size := by rw [List.size_toArray, hl3]; exact size68
      have S2 : (Tryz.prog.info? 77).map (·.size) = some (List.toArray vs2).size := by rw [List.size_toArray, hl2]; exact size77
      have S4 : (Tryz.prog.info? 77).map (·.size) = some (List.toArray vs4).size := by rw [List.size_toArray, hl4]; exact size77
      have T1 := Lib.hid (And.intro hb1 S1)
      have T2 := Lib.hid (And.intro hb2 S2)
      have T3 := Lib.hid (And.intro h9' S3)
      have T4 := Lib.hid (And.intro h10' S4)
      clear hb1 hb2 h9' h10' S1 S2 S3 S4 hl1 hl2 hl3 hl4 ho1 ho2 ho3 ho4
      go_upto_region 12 with fail
      have hS : Below vb.heap.size vb vb.drew := (Below.refl _ _).drew
      refine wp_region_guard (S := fun w' => Below vb.heap.size vb w') [(true, 0), (true, 2), (false, 1), (false, 3), (true, 4), (true, 5), (true, 6), (true, 8), (false, 7), (false, 9), (true, 10), (true, 11), (true, 12), (true, 13), (true, 14), (true, 15), (true, 16), (true, 18), (false, 17), (true, 19), (true, 20), (true, 21), (true, 22), (true, 23), (true, 24), (true, 25), (true, 26), (true, 28), (false, 27), (true, 29), (true, 30), (true, 31), (true, 32)] (by kernel_rfl) (by kernel_rfl) hS ?_
      simp only [pickL, List.getElem?_cons_succ, List.getElem?_cons_zero]
      refine hd_load (.agg (List.toArray vs1)) rfl (fun w' hS => by exact run_row 68 _ rfl (M1) 68 _ _ (by first | rfl | (rw [hM1]; rfl) | (rw [hM2]; rfl)) ((hS.block _ (lt_of_blk T1.out.1)).trans T1.out.1) Tryz.underlying68 rfl T1.out.2) ?_
      simp only [Act.put, List.setIfInBounds_toArray, List.set_cons_zero, List.set_cons_succ]
      refine hd_load (.agg (List.toArray vs3)) rfl (fun w' hS => by exact run_row 68 _ rfl (M4) 68 _ _ (by first | rfl | (rw [hM1]; rfl) | (rw [hM2]; rfl)) ((hS.block _ (lt_of_blk T3.out.1)).trans T3.out.1) Tryz.underlying68 rfl T3.out.2) ?_
      simp only [Act.put, List.setIfInBounds_toArray, List.set_cons_zero, List.set_cons_succ]
      refine hd_run rfl ?_
      refine sq_call 32 #[.agg (List.toArray vs1)] (by go_simp) ?_
      refine Calls.mono (C1.out _ hS) ?_
      rintro e wz1 ⟨rfl, hbz⟩
      replace hS := hS.trans (hbz.mono hS.size)
      clear hbz
      refine ⟨_, rfl, hS, ?_⟩
      refine sq_done ?_
      simp only [Act.put, List.setIfInBounds_toArray, List.set_cons_zero, List.set_cons_succ]
      refine hd_run rfl ?_
      refine sq_call 32 #[.agg (List.toArray vs3)] (by go_simp) ?_
      refine Calls.mono (C3.out _ hS) ?_
      rintro e wz3 ⟨rfl, hbz⟩
      replace hS := hS.trans (hbz.mono hS.size)
      clear hbz
      refine ⟨_, rfl, hS, ?_⟩
      refine sq_done ?_
      simp only [Act.put, List.setIfInBounds_toArray, List.set_cons_zero, List.set_cons_succ]
      refine hd_load (.bool true) rfl (fun w' hS => by go_simp) ?_
      simp only [Act.put, List.setIfInBounds_toArray, List.set_cons_zero, List.set_cons_succ]
      refine hd_load (.bool true) rfl (fun w' hS => by go_simp) ?_
      simp only [Act.put, List.setIfInBounds_toArray, List.set_cons_zero, List.set_cons_succ]
      refine hd_load (.agg (List.toArray vs2)) rfl (fun w' hS => by exact run_row 77 _ rfl (M2) 77 _ _ (by first | rfl | (rw [hM1]; rfl) | (rw [hM2]; rfl)) ((hS.block _ (lt_of_blk T2.out.1)).trans T2.out.1) Tryz.underlying77 rfl T2.out.2) ?_
      simp only [Act.put, List.setIfInBounds_toArray, List.set_cons_zero, List.set_cons_succ]
      refine hd_load (.agg (List.toArray vs4)) rfl (fun w' hS => by exact run_row 77 _ rfl (M4 + 1) 77 _ _ (by first | rfl | (rw [hM1]; rfl) | (rw [hM2]; rfl)) ((hS.block _ (lt_of_blk T4.out.1)).trans T4.out.1) Tryz.underlying77 rfl T4.out.2) ?_
      simp only [Act.put, List.setIfInBounds_toArray, List.set_cons_zero, List.set_cons_succ]
      refine hd_run rfl ?_
      refine sq_call 36 #[.agg (List.toArray vs2)] (by go_simp) ?_
      refine Calls.mono (C2.out _ hS) ?_
      rintro e wz7 ⟨rfl, hbz⟩
      replace hS := hS.trans (hbz.mono hS.size)
      clear hbz
      refine ⟨_, rfl, hS, ?_⟩
      refine sq_done ?_
      simp only [Act.put, List.setIfInBounds_toArray, List.set_cons_zero, List.set_cons_succ]
      refine hd_run rfl ?_
      refine sq_call 36 #[.agg (List.toArray vs4)] (by go_simp) ?_
      refine Calls.mono (C4.out _ hS) ?_
      rintro e wz9 ⟨rfl, hbz⟩
      replace hS := hS.trans (hbz.mono hS.size)
      clear hbz
      refine ⟨_, rfl, hS, ?_⟩
      refine sq_done ?_
      simp only [Act.put, List.setIfInBounds_toArray, List.set_cons_zero, List.set_cons_succ]
      refine hd_load (.bool true) rfl (fun w' hS => by go_simp) ?_
      simp only [Act.put, List.setIfInBounds_toArray, List.set_cons_zero, List.set_cons_succ]
      refine hd_load (.bool true) rfl (fun w' hS => by go_simp) ?_
      simp only [Act.put, List.setIfInBounds_toArray, List.set_cons_zero, List.set_cons_succ]
      refine hd_load (.bool true) rfl (fun w' hS => by go_simp) ?_
      simp only [Act.put, List.setIfInBounds_toArray, List.set_cons_zero, List.set_cons_succ]
      refine hd_load (.int .i64 0) rfl (fun w' hS => by go_simp) ?_
      simp only [Act.put, List.setIfInBounds_toArray, List.set_cons_zero, List.set_cons_succ]
      refine hd_load (.bool false) rfl (fun w' hS => by go_simp) ?_
      simp only [Act.put, List.setIfInBounds_toArray, List.set_cons_zero, List.set_cons_succ]
      refine hd_load (.bool false) rfl (fun w' hS => by go_simp) ?_
      simp only [Act.put, List.setIfInBounds_toArray, List.set_cons_zero, List.set_cons_succ]
      refine hd_load (.agg (List.toArray vs1)) rfl (fun w' hS => by exact run_row 68 _ rfl (M1) 68 _ _ (by first | rfl | (rw [hM1]; rfl) | (rw [hM2]; rfl)) ((hS.block _ (lt_of_blk T1.out.1)).trans T1.out.1) Tryz.underlying68 rfl T1.out.2) ?_
      simp only [Act.put, List.setIfInBounds_toArray, List.set_cons_zero, List.set_cons_succ]
      refine hd_load (.string t) rfl (fun w' hS => by go_simp) ?_
      simp only [Act.put, List.setIfInBounds_toArray, List.set_cons_zero, List.set_cons_succ]
      refine hd_run rfl ?_
      refine sq_call 30 #[.agg (List.toArray vs1)] (by go_simp) ?_
      refine Calls.mono (D1.out _ hS) ?_
      rintro e wz17 ⟨rfl, hbz⟩
      replace hS := hS.trans (hbz.mono hS.size)
      clear hbz
      refine ⟨_, rfl, hS, ?_⟩
      refine sq_done ?_
      simp only [Act.put, List.setIfInBounds_toArray, List.set_cons_zero, List.set_cons_succ]
      refine hd_load (.bool true) rfl (fun w' hS => by go_simp) ?_
      simp only [Act.put, List.setIfInBounds_toArray, List.set_cons_zero, List.set_cons_succ]
      refine hd_load (.bool true) rfl (fun w' hS => by go_simp) ?_
      simp only [Act.put, List.setIfInBounds_toArray, List.set_cons_zero, List.set_cons_succ]
      refine hd_load (.bool true) rfl (fun w' hS => by go_simp) ?_
      simp only [Act.put, List.setIfInBounds_toArray, List.set_cons_zero, List.set_cons_succ]
      refine hd_load (.bool true) rfl (fun w' hS => by go_simp) ?_
      simp only [Act.put, List.setIfInBounds_toArray, List.set_cons_zero, List.set_cons_succ]
      refine hd_load (.int .i64 E2) rfl (fun w' hS => by go_simp) ?_
      simp only [Act.put, List.setIfInBounds_toArray, List.set_cons_zero, List.set_cons_succ]
      refine hd_load (.bool true) rfl (fun w' hS => by go_simp) ?_
      simp only [Act.put, List.setIfInBounds_toArray, List.set_cons_zero, List.set_cons_succ]
      refine hd_load (.bool true) rfl (fun w' hS => by go_simp) ?_
      simp only [Act.put, List.setIfInBounds_toArray, List.set_cons_zero, List.set_cons_succ]
      refine hd_off rfl ?_
      simp only [Act.put, List.setIfInBounds_toArray, List.set_cons_zero, List.set_cons_succ]
      refine hd_off rfl ?_
      simp only [Act.put, List.setIfInBounds_toArray, List.set_cons_zero, List.set_cons_succ]
      refine hd_offs rfl hS ?_
      simp only [Act.put, List.setIfInBounds_toArray, List.set_cons_zero, List.set_cons_succ]
      refine hd_off rfl ?_
      simp only [Act.put, List.setIfInBounds_toArray, List.set_cons_zero, List.set_cons_succ]
      refine hd_load (.bool true) rfl (fun w' hS => by go_simp) ?_
      simp only [Act.put, List.setIfInBounds_toArray, List.set_cons_zero, List.set_cons_succ]
      refine hd_load (.bool true) rfl (fun w' hS => by go_simp) ?_
      simp only [Act.put, List.setIfInBounds_toArray, List.set_cons_zero, List.set_cons_succ]
      refine hd_load (.bool true) rfl (fun w' hS => by go_simp) ?_
      simp only [Act.put, List.setIfInBounds_toArray, List.set_cons_zero, List.set_cons_succ]
      refine hd_done ?_
      have HBz := Lib.hid (HBh.out.trans (hS.mono (by rw [hN0]; exact HBh.out.size)))
      clear hS C1 C2 C3 C4 D1 D2 T1 T2 T3 T4
      go_wp2_with fail
      go_ret
      rw [hN0] at HBz
      exact ⟨rfl, HBz.out⟩
    · subst q1
      have q1 := hxx.out.1.out rfl
      rw [q1] at hR3
      clear q1
      have q1 := HW1.out rfl
      have hsa := hs11
      clear hs11
      have d1 : ((0 : Int) != 0) = false := by simp
      subst q2
      have q2 := hxx.out.2.1.out rfl
      rw [q2] at hR4
      clear q2
      have q2 := HW2.out rfl
      have hsb := hsa
      clear hsa
      have d2 : ((0 : Int) != 0) = false := by simp
      clear hxx HW1 HW2
      have C1 : Hid (∀ W, Below v11.heap.size v11 W → Calls Tryz.prog 32 #[.agg (List.toArray vs1)] W (fun e w' => e = .returned (.string PE) ∧ Below W.heap.size W w')) := Lib.hid (fun W hW => by rw [HPE.out]; exact str_edit n _ W _ x1 (rep_below (stb_ed n) hR1 hW (by omega)) (fun b hb => by obtain ⟨hb1, hb2⟩ := hb; have := hW.size; omega) Hz1.out)
      have C3 : Hid (∀ W, Below v11.heap.size v11 W → Calls Tryz.prog 32 #[.agg (List.toArray vs3)] W (fun e w' => e = .returned (.string PE) ∧ Below W.heap.size W w')) := Lib.hid (fun W hW => by rw [HPE.out]; exact str_edit n _ W _ x1 (rep_below (stb_ed n) hR3 hW (by omega)) (fun b hb => by obtain ⟨hb1, hb2⟩ := hb; have := hW.size; omega) Hz1.out)
      have C2 : Hid (∀ W, Below v11.heap.size v11 W → Calls Tryz.prog 36 #[.agg (List.toArray vs2)] W (fun e w' => e = .returned (.string PS) ∧ Below W.heap.size W w')) := Lib.hid (fun W hW => by rw [HPS.out]; exact str_splice n _ W _ x2 (rep_below (stb_sp n) hR2 hW (by omega)) (fun b hb => by obtain ⟨hb1, hb2⟩ := hb; have := hW.size; omega) Hz2.out)
      have C4 : Hid (∀ W, Below v11.heap.size v11 W → Calls Tryz.prog 36 #[.agg (List.toArray vs4)] W (fun e w' => e = .returned (.string PS) ∧ Below W.heap.size W w')) := Lib.hid (fun W hW => by rw [HPS.out]; exact str_splice n _ W _ x2 (rep_below (stb_sp n) hR4 hW (by omega)) (fun b hb => by obtain ⟨hb1, hb2⟩ := hb; have := hW.size; omega) Hz2.out)
      have D1 : Hid (∀ W, Below v11.heap.size v11 W → Calls Tryz.prog 30 #[.agg (List.toArray vs1)] W (fun e w' => e = .returned (.string PE) ∧ Below W.heap.size W w')) := Lib.hid (fun W hW => by rw [HPE.out]; exact EncEdit30 n _ W _ x1 (rep_below (stb_ed n) hR1 hW (by omega)) (fun b hb => by obtain ⟨hb1, hb2⟩ := hb; have := hW.size; omega) Hz1.out)
      have D2 : Hid (∀ W, Below v11.heap.size v11 W → Calls Tryz.prog 34 #[.agg (List.toArray vs2)] W (fun e w' => e = .returned (.string PS) ∧ Below W.heap.size W w')) := Lib.hid (fun W hW => by rw [HPS.out]; exact EncSplice34 n _ W _ x2 (rep_below (stb_sp n) hR2 hW (by omega)) (fun b hb => by obtain ⟨hb1, hb2⟩ := hb; have := hW.size; omega) Hz2.out)
      have HBh := Lib.hid HB
      clear HB hR1 hR2 hR3 hR4 HPE HPS Hz1 Hz2
      rw [q1] at C1 C3 D1
      rw [q2] at C2 C4 D2
      have S1 : (Tryz.prog.info? 68).map (·.size) = some (List.toArray vs1).size := by rw [List.size_toArray, hl1]; exact size68
      have S3 : (Tryz.prog.info? 68).map (·.size) = some (List.toArray vs3).size := by rw [List.size_toArray, hl3]; exact size68
      have S2 : (Tryz.prog.info? 77).map (·.size) = some (List.toArray vs2).size := by rw [List.size_toArray, hl2]; exact size77
      have S4 : (Tryz.prog.info? 77).map (·.size) = some (List.toArray vs4).size := by rw [List.size_toArray, hl4]; exact size77
      have T1 := Lib.hid (And.intro hb1 S1)
      have T2 := Lib.hid (And.intro hb2 S2)
      have T3 := Lib.hid (And.intro h9' S3)
      have T4 := Lib.hid (And.intro h10' S4)
      clear hb1 hb2 h9' h10' S1 S2 S3 S4 hl1 hl2 hl3 hl4 ho1 ho2 ho3 ho4
      go_upto_region 12 with fail
      have hS : Below v11.heap.size v11 v11.drew := (Below.refl _ _).drew
      refine wp_region_guard (S := fun w' => Below v11.heap.size v11 w') [(true, 0), (true, 2), (false, 1), (false, 3), (true, 4), (true, 5), (true, 6), (true, 8), (false, 7), (false, 9), (true, 10), (true, 11), (true, 12), (true, 13), (true, 14), (true, 15), (true, 16), (true, 18), (false, 17), (true, 19), (true, 20), (true, 21), (true, 22), (true, 23), (true, 24), (true, 25), (true, 26), (true, 28), (false, 27), (true, 29), (true, 30), (true, 31), (true, 32)] (by kernel_rfl) (by kernel_rfl) hS ?_
      simp only [pickL, List.getElem?_cons_succ, List.getElem?_cons_zero]
      refine hd_load (.agg (List.toArray vs1)) rfl (fun w' hS => by exact run_row 68 _ rfl (M1) 68 _ _ (by first | rfl | (rw [hM1]; rfl) | (rw [hM2]; rfl)) ((hS.block _ (lt_of_blk T1.out.1)).trans T1.out.1) Tryz.underlying68 rfl T1.out.2) ?_
      simp only [Act.put, List.setIfInBounds_toArray, List.set_cons_zero, List.set_cons_succ]
      refine hd_load (.agg (List.toArray vs3)) rfl (fun w' hS => by exact run_row 68 _ rfl (M4) 68 _ _ (by first | rfl | (rw [hM1]; rfl) | (rw [hM2]; rfl)) ((hS.block _ (lt_of_blk T3.out.1)).trans T3.out.1) Tryz.underlying68 rfl T3.out.2) ?_
      simp only [Act.put, List.setIfInBounds_toArray, List.set_cons_zero, List.set_cons_succ]
      refine hd_run rfl ?_
      refine sq_call 32 #[.agg (List.toArray vs1)] (by go_simp) ?_
      refine Calls.mono (C1.out _ hS) ?_
      rintro e wz1 ⟨rfl, hbz⟩
      replace hS := hS.trans (hbz.mono hS.size)
      clear hbz
      refine ⟨_, rfl, hS, ?_⟩
      refine sq_done ?_
      simp only [Act.put, List.setIfInBounds_toArray, List.set_cons_zero, List.set_cons_succ]
      refine hd_run rfl ?_
      refine sq_call 32 #[.agg (List.toArray vs3)] (by go_simp) ?_
      refine Calls.mono (C3.out _ hS) ?_
      rintro e wz3 ⟨rfl, hbz⟩
      replace hS := hS.trans (hbz.mono hS.size)
      clear hbz
      refine ⟨_, rfl, hS, ?_⟩
      refine sq_done ?_
      simp only [Act.put, List.setIfInBounds_toArray, List.set_cons_zero, List.set_cons_succ]
      refine hd_load (.bool true) rfl (fun w' hS => by go_simp) ?_
      simp only [Act.put, List.setIfInBounds_toArray, List.set_cons_zero, List.set_cons_succ]
      refine hd_load (.bool true) rfl (fun w' hS => by go_simp) ?_
      simp only [Act.put, List.setIfInBounds_toArray, List.set_cons_zero, List.set_cons_succ]
      refine hd_load (.agg (List.toArray vs2)) rfl (fun w' hS => by exact run_row 77 _ rfl (M2) 77 _ _ (by first | rfl | (rw [hM1]; rfl) | (rw [hM2]; rfl)) ((hS.block _ (lt_of_blk T2.out.1)).trans T2.out.1) Tryz.underlying77 rfl T2.out.2) ?_
      simp only [Act.put, List.setIfInBounds_toArray, List.set_cons_zero, List.set_cons_succ]
      refine hd_load (.agg (List.toArray vs4)) rfl (fun w' hS => by exact run_row 77 _ rfl (M4 + 1) 77 _ _ (by first | rfl | (rw [hM1]; rfl) | (rw [hM2]; rfl)) ((hS.block _ (lt_of_blk T4.out.1)).trans T4.out.1) Tryz.underlying77 rfl T4.out.2) ?_
      simp only [Act.put, List.setIfInBounds_toArray, List.set_cons_zero, List.set_cons_succ]
      refine hd_run rfl ?_
      refine sq_call 36 #[.agg (List.toArray vs2)] (by go_simp) ?_
      refine Calls.mono (C2.out _ hS) ?_
      rintro e wz7 ⟨rfl, hbz⟩
      replace hS := hS.trans (hbz.mono hS.size)
      clear hbz
      refine ⟨_, rfl, hS, ?_⟩
      refine sq_done ?_
      simp only [Act.put, List.setIfInBounds_toArray, List.set_cons_zero, List.set_cons_succ]
      refine hd_run rfl ?_
      refine sq_call 36 #[.agg (List.toArray vs4)] (by go_simp) ?_
      refine Calls.mono (C4.out _ hS) ?_
      rintro e wz9 ⟨rfl, hbz⟩
      replace hS := hS.trans (hbz.mono hS.size)
      clear hbz
      refine ⟨_, rfl, hS, ?_⟩
      refine sq_done ?_
      simp only [Act.put, List.setIfInBounds_toArray, List.set_cons_zero, List.set_cons_succ]
      refine hd_load (.bool true) rfl (fun w' hS => by go_simp) ?_
      simp only [Act.put, List.setIfInBounds_toArray, List.set_cons_zero, List.set_cons_succ]
      refine hd_load (.bool true) rfl (fun w' hS => by go_simp) ?_
      simp only [Act.put, List.setIfInBounds_toArray, List.set_cons_zero, List.set_cons_succ]
      refine hd_load (.bool true) rfl (fun w' hS => by go_simp) ?_
      simp only [Act.put, List.setIfInBounds_toArray, List.set_cons_zero, List.set_cons_succ]
      refine hd_load (.int .i64 0) rfl (fun w' hS => by go_simp) ?_
      simp only [Act.put, List.setIfInBounds_toArray, List.set_cons_zero, List.set_cons_succ]
      refine hd_load (.bool false) rfl (fun w' hS => by go_simp) ?_
      simp only [Act.put, List.setIfInBounds_toArray, List.set_cons_zero, List.set_cons_succ]
      refine hd_load (.bool false) rfl (fun w' hS => by go_simp) ?_
      simp only [Act.put, List.setIfInBounds_toArray, List.set_cons_zero, List.set_cons_succ]
      refine hd_load (.agg (List.toArray vs1)) rfl (fun w' hS => by exact run_row 68 _ rfl (M1) 68 _ _ (by first | rfl | (rw [hM1]; rfl) | (rw [hM2]; rfl)) ((hS.block _ (lt_of_blk T1.out.1)).trans T1.out.1) Tryz.underlying68 rfl T1.out.2) ?_
      simp only [Act.put, List.setIfInBounds_toArray, List.set_cons_zero, List.set_cons_succ]
      refine hd_load (.string t) rfl (fun w' hS => by go_simp) ?_
      simp only [Act.put, List.setIfInBounds_toArray, List.set_cons_zero, List.set_cons_succ]
      refine hd_run rfl ?_
      refine sq_call 30 #[.agg (List.toArray vs1)] (by go_simp) ?_
      refine Calls.mono (D1.out _ hS) ?_
      rintro e wz17 ⟨rfl, hbz⟩
      replace hS := hS.trans (hbz.mono hS.size)
      clear hbz
      refine ⟨_, rfl, hS, ?_⟩
      refine sq_done ?_
      simp only [Act.put, List.setIfInBounds_toArray, List.set_cons_zero, List.set_cons_succ]
      refine hd_load (.bool true) rfl (fun w' hS => by go_simp) ?_
      simp only [Act.put, List.setIfInBounds_toArray, List.set_cons_zero, List.set_cons_succ]
      refine hd_load (.bool true) rfl (fun w' hS => by go_simp) ?_
      simp only [Act.put, List.setIfInBounds_toArray, List.set_cons_zero, List.set_cons_succ]
      refine hd_load (.bool true) rfl (fun w' hS => by go_simp) ?_
      simp only [Act.put, List.setIfInBounds_toArray, List.set_cons_zero, List.set_cons_succ]
      refine hd_load (.bool true) rfl (fun w' hS => by go_simp) ?_
      simp only [Act.put, List.setIfInBounds_toArray, List.set_cons_zero, List.set_cons_succ]
      refine hd_load (.int .i64 0) rfl (fun w' hS => by go_simp) ?_
      simp only [Act.put, List.setIfInBounds_toArray, List.set_cons_zero, List.set_cons_succ]
      refine hd_load (.bool false) rfl (fun w' hS => by go_simp) ?_
      simp only [Act.put, List.setIfInBounds_toArray, List.set_cons_zero, List.set_cons_succ]
      refine hd_load (.bool false) rfl (fun w' hS => by go_simp) ?_
      simp only [Act.put, List.setIfInBounds_toArray, List.set_cons_zero, List.set_cons_succ]
      refine hd_load (.agg (List.toArray vs2)) rfl (fun w' hS => by exact run_row 77 _ rfl (M2) 77 _ _ (by first | rfl | (rw [hM1]; rfl) | (rw [hM2]; rfl)) ((hS.block _ (lt_of_blk T2.out.1)).trans T2.out.1) Tryz.underlying77 rfl T2.out.2) ?_
      simp only [Act.put, List.setIfInBounds_toArray, List.set_cons_zero, List.set_cons_succ]
      refine hd_load (.string t) rfl (fun w' hS => by go_simp) ?_
      simp only [Act.put, List.setIfInBounds_toArray, List.set_cons_zero, List.set_cons_succ]
      refine hd_run rfl ?_
      refine sq_call 34 #[.agg (List.toArray vs2)] (by go_simp) ?_
      refine Calls.mono (D2.out _ hS) ?_
      rintro e wz27 ⟨rfl, hbz⟩
      replace hS := hS.trans (hbz.mono hS.size)
      clear hbz
      refine ⟨_, rfl, hS, ?_⟩
      refine sq_done ?_
      simp only [Act.put, List.setIfInBounds_toArray, List.set_cons_zero, List.set_cons_succ]
      refine hd_load (.bool true) rfl (fun w' hS => by go_simp) ?_
      simp only [Act.put, List.setIfInBounds_toArray, List.set_cons_zero, List.set_cons_succ]
      refine hd_load (.bool true) rfl (fun w' hS => by go_simp) ?_
      simp only [Act.put, List.setIfInBounds_toArray, List.set_cons_zero, List.set_cons_succ]
      refine hd_load (.bool true) rfl (fun w' hS => by go_simp) ?_
      simp only [Act.put, List.setIfInBounds_toArray, List.set_cons_zero, List.set_cons_succ]
      refine hd_load (.bool true) rfl (fun w' hS => by go_simp) ?_
      simp only [Act.put, List.setIfInBounds_toArray, List.set_cons_zero, List.set_cons_succ]
      refine hd_done ?_
      have HBz := Lib.hid (HBh.out.trans (hS.mono (by rw [hN0]; exact HBh.out.size)))
      clear hS C1 C2 C3 C4 D1 D2 T1 T2 T3 T4
      go_wp2_with fail
      go_ret
      rw [hN0] at HBz
      exact ⟨rfl, HBz.out⟩
end Go.Proofs.YtmhhcfceikcfbaaGreat
