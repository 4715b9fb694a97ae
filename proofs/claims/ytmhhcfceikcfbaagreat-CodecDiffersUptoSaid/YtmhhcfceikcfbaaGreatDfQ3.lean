/- Walks: equality of documents. -/
import Derived.Test.YtmhhcfceikcfbaaGreatDfM9
import Derived.Test.YtmhhcfceikcfbaaGreatDfQ2
namespace Go.Proofs.YtmhhcfceikcfbaaGreat
open Go.RowKit
theorem esz47 : (Tryz.prog.info? 47).map (·.size) = some 4 := by kernel_rfl
set_option maxRecDepth 100000 in
set_option maxHeartbeats 4000000 in
theorem eq22 (n : Nat) : EqEl 22 (dcP n) 11 := by
 intro G w vs us x y hx hy _ _ hG
 obtain ⟨f0, h0, h1, h2, h3, h4, r0, s0, s1, s2, s3, rfl, A0, A1, A2, A3⟩ := hx
 obtain ⟨f9, j0, j1, j2, j3, j4, r9, t0, t1, t2, t3, rfl, B0, B1, B2, B3⟩ := hy
 obtain ⟨x0, x1, x2, xs, xl, xc, xv⟩ := x
 obtain ⟨y0, y1, y2, ys, yl, yc, yv⟩ := y
 obtain ⟨_, _, _, _, he, P0, P1, P2, P3⟩ := A3
 cases he
 obtain ⟨_, _, _, _, he, Q0, Q1, Q2, Q3⟩ := B3
 cases he
 have hone : (∀ u ∈ [s0, s1, s2, s3], u.oneCell' = true) ∧ ∀ u ∈ [t0, t1, t2, t3], u.oneCell' = true := by
  obtain ⟨_, _, rfl, _, _⟩ := P0.shape
  obtain ⟨_, _, rfl, _, _⟩ := P1.shape
  obtain ⟨_, _, rfl, _, _⟩ := P2.shape
  obtain ⟨_, _, rfl, _, _⟩ := P3.shape
  obtain ⟨_, _, rfl, _, _⟩ := Q0.shape
  obtain ⟨_, _, rfl, _, _⟩ := Q1.shape
  obtain ⟨_, _, rfl, _, _⟩ := Q2.shape
  obtain ⟨_, _, rfl, _, _⟩ := Q3.shape
  constructor <;> intro u hu <;> simp at hu <;> rcases hu with rfl | rfl | rfl | rfl <;> rfl
 have HONE := Lib.hid hone
 have F0 := Lib.hid A0
 have F1 := Lib.hid A1
 have F2 := Lib.hid A2
 have F3 := Lib.hid P0
 have F4 := Lib.hid P1
 have F5 := Lib.hid P2
 have F6 := Lib.hid P3
 have G0 := Lib.hid B0
 have G1 := Lib.hid B1
 have G2 := Lib.hid B2
 have G3 := Lib.hid Q0
 have G4 := Lib.hid Q1
 have G5 := Lib.hid Q2
 have G6 := Lib.hid Q3
 have HG := Lib.hid hG
 clear A0 A1 A2 P0 P1 P2 P3 B0 B1 B2 Q0 Q1 Q2 Q3 hG hone
 obtain ⟨N, hN⟩ : ∃ N, N = w.heap.size := ⟨_, rfl⟩
 obtain ⟨W, hW⟩ : ∃ W, W = ((w.alloc (.cells #[f0, h0, h1, h2, h3, h4, r0, s0, s1, s2, s3] 49)).alloc (.cells #[f9, j0, j1, j2, j3, j4, r9, t0, t1, t2, t3] 49)) := ⟨_, rfl⟩
 have hb1 : W.heap[N]? = some (.cells #[f0, h0, h1, h2, h3, h4, r0, s0, s1, s2, s3] 49 (0, 0)) := by rw [hW, hN]; exact (Below.heap_alloc _ _ _ (by simp)).trans (heap_alloc_new _ _)
 have hb2 : W.heap[N + 1]? = some (.cells #[f9, j0, j1, j2, j3, j4, r9, t0, t1, t2, t3] 49 (0, 0)) := by rw [hW, hN]; exact heap_alloc_new' _ _ (by simp)
 have hB : Below w.heap.size w W := by rw [hW]; exact ((Below.refl _ _).alloc (Nat.le_refl _) _).alloc (by simp) _
 have HW := Lib.hid hW
 have HN := Lib.hid hN
 have HB0 := Lib.hid hB
 have K0 := Lib.hid hb1
 have J0 := Lib.hid hb2
 clear hW hN hB
 go_enter Tryz.func22, Tryz.ntmps22
 go_upto_region 1 with fail
 rw [← HW.out, ← HN.out]
 clear HW
 go_cut [5, 6] from 8 to 11 (fun p5 p6 wc => ∃ g5 g6 : Nat, p5 = .pointer (some ⟨g5, 0, none⟩) ∧ p6 = .pointer (some ⟨g6, 0, none⟩) ∧ wc.heap[g5]? = some (.cells #[s0, s1, s2, s3] 47 (0, 0)) ∧ wc.heap[g6]? = some (.cells #[t0, t1, t2, t3] 47 (0, 0)) ∧ Below W.heap.size W wc)
 case first =>
  have hz1 := lt_of_blk hb1
  have hz2 := lt_of_blk hb2
  refine wp_region_tr (S := fun w' => w'.heap[N]? = some (.cells #[f0, h0, h1, h2, h3, h4, r0, s0, s1, s2, s3] 49 (0, 0)) ∧ w'.heap[N + 1]? = some (.cells #[f9, j0, j1, j2, j3, j4, r9, t0, t1, t2, t3] 49 (0, 0))) (.ld 0 (.ld 1 (.ld 2 (.ld 3 (.br 4 (.run 5 (.run 6 (.run 7 .done))) 5 (.run 4 (.run 6 (.run 7 .done)))))))) (by kernel_rfl) (by kernel_rfl) ⟨hb1, hb2⟩ ?_
  simp only [Tr.pick, List.getElem?_cons_succ, List.getElem?_cons_zero]
  refine tr_load (.pointer (some ⟨N, 7, none⟩)) (fun w' hS => by go_simp) ?_
  simp only [Act.put, PutA, PutZ, PutS]
  refine tr_load (.agg #[s0, s1, s2, s3]) (fun w' hS => by have q0 := blk_cell hS.1 7; have q1 := blk_cell hS.1 8; have q2 := blk_cell hS.1 9; have q3 := blk_cell hS.1 10; go_simp) ?_
  simp only [Act.put, PutA, PutZ, PutS]
  refine tr_load (.pointer (some ⟨N + 1, 7, none⟩)) (fun w' hS => by go_simp) ?_
  simp only [Act.put, PutA, PutZ, PutS]
  refine tr_load (.agg #[t0, t1, t2, t3]) (fun w' hS => by have q0 := blk_cell hS.2 7; have q1 := blk_cell hS.2 8; have q2 := blk_cell hS.2 9; have q3 := blk_cell hS.2 10; go_simp) ?_
  simp only [Act.put, PutA, PutZ, PutS]
  refine tr_br ?_ ?_
  ·have kb : Below W.heap.size W W.drew := (Below.refl _ _).drew
   have k1 : W.drew.heap[N]? = _ := hb1
   have k2 : W.drew.heap[N + 1]? = _ := hb2
   refine sq_value (.pointer (some ⟨W.drew.heap.size, 0, none⟩)) (W.drew.alloc (.cells #[.slice none 0 0, .slice none 0 0, .slice none 0 0, .slice none 0 0] 47)) (by go_simp) ⟨blk_ov k1 (below_alloc _ _), blk_ov k2 (below_alloc _ _)⟩ ?_
   have hn5 := heap_alloc_new W.drew (.cells #[.slice none 0 0, .slice none 0 0, .slice none 0 0, .slice none 0 0] 47)
   have hawa := below_alloc W.drew (.cells #[.slice none 0 0, .slice none 0 0, .slice none 0 0, .slice none 0 0] 47)
   obtain ⟨wa, hwwa⟩ : ∃ X, X = W.drew.alloc (.cells #[.slice none 0 0, .slice none 0 0, .slice none 0 0, .slice none 0 0] 47) := ⟨_, rfl⟩
   obtain ⟨g5, hgg5⟩ : ∃ g, g = W.drew.heap.size := ⟨_, rfl⟩
   rw [← hwwa] at hn5 hawa ⊢
   rw [← hgg5] at hn5 ⊢
   have hzg5 : W.heap.size ≤ g5 := by rw [hgg5]; exact kb.size
   replace k1 := blk_ov k1 hawa
   replace k2 := blk_ov k2 hawa
   replace kb := kb.trans (hawa.mono kb.size)
   have hne : g5 < wa.heap.size := lt_of_blk hn5
   clear hwwa
   refine sq_done ?_
   simp only [Act.put, PutA, PutZ, PutS]
   refine tr_run ?_
   refine sq_value (.pointer (some ⟨wa.heap.size, 0, none⟩)) (wa.alloc (.cells #[.slice none 0 0, .slice none 0 0, .slice none 0 0, .slice none 0 0] 47)) (by go_simp) ⟨blk_ov k1 (below_alloc _ _), blk_ov k2 (below_alloc _ _)⟩ ?_
   have hn6 := heap_alloc_new wa (.cells #[.slice none 0 0, .slice none 0 0, .slice none 0 0, .slice none 0 0] 47)
   have hawb := below_alloc wa (.cells #[.slice none 0 0, .slice none 0 0, .slice none 0 0, .slice none 0 0] 47)
   obtain ⟨wb, hwwb⟩ : ∃ X, X = wa.alloc (.cells #[.slice none 0 0, .slice none 0 0, .slice none 0 0, .slice none 0 0] 47) := ⟨_, rfl⟩
   obtain ⟨g6, hgg6⟩ : ∃ g, g = wa.heap.size := ⟨_, rfl⟩
   rw [← hwwb] at hn6 hawb ⊢
   rw [← hgg6] at hn6 ⊢
   have hzg6 : W.heap.size ≤ g6 := by rw [hgg6]; exact kb.size
   replace k1 := blk_ov k1 hawb
   replace k2 := blk_ov k2 hawb
   replace hn5 := blk_ov hn5 hawb
   replace kb := kb.trans (hawb.mono kb.size)
   have hne2 : g5 ≠ g6 := by omega
   clear hwwb hgg5 hgg6
   refine sq_done ?_
   simp only [Act.put, PutA, PutZ, PutS]
   refine tr_run ?_
   have hW5 : W.heap.size ≤ g5 ∧ W.heap.size ≤ g6 ∧ g5 ≠ N ∧ g5 ≠ N + 1 ∧ g6 ≠ N ∧ g6 ≠ N + 1 := by omega
   refine sq_store_row 47 _ _ rfl rfl g5 47 _ [s0, s1, s2, s3] rfl rfl hn5 esz47 HONE.out.1 rfl ?_
   intro wc hs5 hg5
   have hz5 : Below W.heap.size W wc := below_row kb hg5 hW5.1 kb.size
   have k1' := (hg5.block N (lt_of_blk k1) (fun e => hW5.2.2.1 (Option.some.inj e).symm)).trans k1
   have k2' := (hg5.block (N + 1) (lt_of_blk k2) (fun e => hW5.2.2.2.1 (Option.some.inj e).symm)).trans k2
   have hn6' := (hg5.block g6 (lt_of_blk hn6) (fun e => by have := Option.some.inj e; omega)).trans hn6
   refine ⟨⟨k1', k2'⟩, sq_done ?_⟩
   show wpTr _ _ _ _ _ _
   refine tr_run ?_
   refine sq_store_row 47 _ _ rfl rfl g6 47 _ [t0, t1, t2, t3] rfl rfl hn6' esz47 HONE.out.2 rfl ?_
   intro wd hs6 hg6
   have HF : Hid (wd.heap[g5]? = some (.cells #[s0, s1, s2, s3] 47 (0, 0)) ∧ wd.heap[g6]? = some (.cells #[t0, t1, t2, t3] 47 (0, 0)) ∧ Below W.heap.size W wd) := Lib.hid ⟨(hg6.block g5 (lt_of_blk hs5) (fun e => by have := Option.some.inj e; omega)).trans hs5, hs6, below_row hz5 hg6 hW5.2.1 hz5.size⟩
   refine ⟨⟨(hg6.block N (lt_of_blk k1') (fun e => hW5.2.2.2.2.1 (Option.some.inj e).symm)).trans k1', (hg6.block (N + 1) (lt_of_blk k2') (fun e => hW5.2.2.2.2.2 (Option.some.inj e).symm)).trans k2'⟩, sq_done ?_⟩
   show wpTr _ _ _ _ _ _
   refine tr_done ?_
   clear k1 k2 kb hn5 hn6 hn6' hs5 hs6 hg5 hg6 hz5 k1' k2' hb1 hb2
   go_wp2_with fail
   go_meet
   case rel => exact ⟨g5, g6, rfl, rfl, HF.out.1, HF.out.2.1, HF.out.2.2⟩
  ·have kb : Below W.heap.size W W.drew := (Below.refl _ _).drew
   have k1 : W.drew.heap[N]? = _ := hb1
   have k2 : W.drew.heap[N + 1]? = _ := hb2
   refine sq_value (.pointer (some ⟨W.drew.heap.size, 0, none⟩)) (W.drew.alloc (.cells #[.slice none 0 0, .slice none 0 0, .slice none 0 0, .slice none 0 0] 47)) (by go_simp) ⟨blk_ov k1 (below_alloc _ _), blk_ov k2 (below_alloc _ _)⟩ ?_
   have hn6 := heap_alloc_new W.drew (.cells #[.slice none 0 0, .slice none 0 0, .slice none 0 0, .slice none 0 0] 47)
   have hawa := below_alloc W.drew (.cells #[.slice none 0 0, .slice none 0 0, .slice none 0 0, .slice none 0 0] 47)
   obtain ⟨wa, hwwa⟩ : ∃ X, X = W.drew.alloc (.cells #[.slice none 0 0, .slice none 0 0, .slice none 0 0, .slice none 0 0] 47) := ⟨_, rfl⟩
   obtain ⟨g6, hgg6⟩ : ∃ g, g = W.drew.heap.size := ⟨_, rfl⟩
   rw [← hwwa] at hn6 hawa ⊢
   rw [← hgg6] at hn6 ⊢
   have hzg6 : W.heap.size ≤ g6 := by rw [hgg6]; exact kb.size
   replace k1 := blk_ov k1 hawa
   replace k2 := blk_ov k2 hawa
   replace kb := kb.trans (hawa.mono kb.size)
   have hne : g6 < wa.heap.size := lt_of_blk hn6
   clear hwwa
   refine sq_done ?_
   simp only [Act.put, PutA, PutZ, PutS]
   refine tr_run ?_
   refine sq_value (.pointer (some ⟨wa.heap.size, 0, none⟩)) (wa.alloc (.cells #[.slice none 0 0, .slice none 0 0, .slice none 0 0, .slice none 0 0] 47)) (by go_simp) ⟨blk_ov k1 (below_alloc _ _), blk_ov k2 (below_alloc _ _)⟩ ?_
   have hn5 := heap_alloc_new wa (.cells #[.slice none 0 0, .slice none 0 0, .slice none 0 0, .slice none 0 0] 47)
   have hawb := below_alloc wa (.cells #[.slice none 0 0, .slice none 0 0, .slice none 0 0, .slice none 0 0] 47)
   obtain ⟨wb, hwwb⟩ : ∃ X, X = wa.alloc (.cells #[.slice none 0 0, .slice none 0 0, .slice none 0 0, .slice none 0 0] 47) := ⟨_, rfl⟩
   obtain ⟨g5, hgg5⟩ : ∃ g, g = wa.heap.size := ⟨_, rfl⟩
   rw [← hwwb] at hn5 hawb ⊢
   rw [← hgg5] at hn5 ⊢
   have hzg5 : W.heap.size ≤ g5 := by rw [hgg5]; exact kb.size
   replace k1 := blk_ov k1 hawb
   replace k2 := blk_ov k2 hawb
   replace hn6 := blk_ov hn6 hawb
   replace kb := kb.trans (hawb.mono kb.size)
   have hne2 : g6 ≠ g5 := by omega
   clear hwwb hgg6 hgg5
   refine sq_done ?_
   simp only [Act.put, PutA, PutZ, PutS]
   refine tr_run ?_
   have hW5 : W.heap.size ≤ g5 ∧ W.heap.size ≤ g6 ∧ g5 ≠ N ∧ g5 ≠ N + 1 ∧ g6 ≠ N ∧ g6 ≠ N + 1 := by omega
   refine sq_store_row 47 _ _ rfl rfl g5 47 _ [s0, s1, s2, s3] rfl rfl hn5 esz47 HONE.out.1 rfl ?_
   intro wc hs5 hg5
   have hz5 : Below W.heap.size W wc := below_row kb hg5 hW5.1 kb.size
   have k1' := (hg5.block N (lt_of_blk k1) (fun e => hW5.2.2.1 (Option.some.inj e).symm)).trans k1
   have k2' := (hg5.block (N + 1) (lt_of_blk k2) (fun e => hW5.2.2.2.1 (Option.some.inj e).symm)).trans k2
   have hn6' := (hg5.block g6 (lt_of_blk hn6) (fun e => by have := Option.some.inj e; omega)).trans hn6
   refine ⟨⟨k1', k2'⟩, sq_done ?_⟩
   show wpTr _ _ _ _ _ _
   refine tr_run ?_
   refine sq_store_row 47 _ _ rfl rfl g6 47 _ [t0, t1, t2, t3] rfl rfl hn6' esz47 HONE.out.2 rfl ?_
   intro wd hs6 hg6
   have HF : Hid (wd.heap[g5]? = some (.cells #[s0, s1, s2, s3] 47 (0, 0)) ∧ wd.heap[g6]? = some (.cells #[t0, t1, t2, t3] 47 (0, 0)) ∧ Below W.heap.size W wd) := Lib.hid ⟨(hg6.block g5 (lt_of_blk hs5) (fun e => by have := Option.some.inj e; omega)).trans hs5, hs6, below_row hz5 hg6 hW5.2.1 hz5.size⟩
   refine ⟨⟨(hg6.block N (lt_of_blk k1') (fun e => hW5.2.2.2.2.1 (Option.some.inj e).symm)).trans k1', (hg6.block (N + 1) (lt_of_blk k2') (fun e => hW5.2.2.2.2.2 (Option.some.inj e).symm)).trans k2'⟩, sq_done ?_⟩
   show wpTr _ _ _ _ _ _
   refine tr_done ?_
   clear k1 k2 kb hn5 hn6 hn6' hs5 hs6 hg5 hg6 hz5 k1' k2' hb1 hb2
   go_wp2_with fail
   go_meet
   case rel => exact ⟨g5, g6, rfl, rfl, HF.out.1, HF.out.2.1, HF.out.2.2⟩
 case rest =>
  obtain ⟨g5, g6, rfl, rfl, h5, h6, hbc⟩ := hcut
  have M0 := Lib.hid h5
  have L0 := Lib.hid h6
  have hk1 := blk_ov hb1 hbc
  have hk2 := blk_ov hb2 hbc
  replace K0 := Lib.hid hk1
  replace J0 := Lib.hid hk2
  replace HB0 := Lib.hid (HB0.out.trans (hbc.mono HB0.out.size))
  clear h5 h6 hbc hk1 hk2 hb1 hb2 HONE
  have eK0 := blk_cell K0.out 0
  have dK0 := blk_cell J0.out 0
  have C := Lib.hid (eq_items n G wc _ _ _ _ (F0.out.below (stb_it n) HG.out HB0.out) (G0.out.below (stb_it n) HG.out HB0.out) (fun b h => Nat.lt_of_lt_of_le (HG.out b h) HB0.out.size))
  go_wp2_with fail
  refine C.out.mono ?_
  rintro e w1 ⟨r0, rfl, hr, hb⟩
  have HR0 := Lib.hid hr
  have HB1 := Lib.hid (HB0.out.trans (hb.mono HB0.out.size))
  have K1 := Lib.hid (blk_ov K0.out hb)
  have J1 := Lib.hid (blk_ov J0.out hb)
  have M1 := Lib.hid (blk_ov M0.out hb)
  have L1 := Lib.hid (blk_ov L0.out hb)
  clear C hb hr HB0 K0 J0 M0 L0 eK0 dK0
  cases r0
  ·go_wp2_with fail
   go_ret
   exact EqC.no (fun e => by cases e; have := HR0.out.2 rfl; cases this) HB1.out
  ·have eK1 := blk_cell K1.out 1
   have dK1 := blk_cell J1.out 1
   have eK2 := blk_cell K1.out 2
   have dK2 := blk_cell J1.out 2
   have eK3 := blk_cell K1.out 3
   have dK3 := blk_cell J1.out 3
   have eK4 := blk_cell K1.out 4
   have dK4 := blk_cell J1.out 4
   have eK5 := blk_cell K1.out 5
   have dK5 := blk_cell J1.out 5
   have C := Lib.hid (eq59 G w1 _ _ _ _ (Rp.below stb_hd F1.out HG.out HB1.out) (Rp.below stb_hd G1.out HG.out HB1.out) rfl rfl (fun b h => Nat.lt_of_lt_of_le (HG.out b h) HB1.out.size))
   go_wp2_with fail
   refine C.out.mono ?_
   rintro e w2 ⟨r1, rfl, hr, hb⟩
   have HR1 := Lib.hid hr
   have HB2 := Lib.hid (HB1.out.trans (hb.mono HB1.out.size))
   have K2 := Lib.hid (blk_ov K1.out hb)
   have J2 := Lib.hid (blk_ov J1.out hb)
   have M2 := Lib.hid (blk_ov M1.out hb)
   have L2 := Lib.hid (blk_ov L1.out hb)
   clear C hb hr HB1 K1 J1 M1 L1 eK1 dK1 eK2 dK2 eK3 dK3 eK4 dK4 eK5 dK5
   cases r1
   ·go_wp2_with fail
    go_ret
    exact EqC.no (fun e => by cases e; have := HR1.out.2 rfl; cases this) HB2.out
   ·have eK6 := blk_cell K2.out 6
    have dK6 := blk_cell J2.out 6
    have C := Lib.hid (eq60 G w2 _ _ _ _ (F2.out.below stb_rev HG.out HB2.out) (G2.out.below stb_rev HG.out HB2.out) (fun b h => Nat.lt_of_lt_of_le (HG.out b h) HB2.out.size))
    go_wp2_with fail
    refine C.out.mono ?_
    rintro e w3 ⟨r2, rfl, hr, hb⟩
    have HR2 := Lib.hid hr
    have HB3 := Lib.hid (HB2.out.trans (hb.mono HB2.out.size))
    have K3 := Lib.hid (blk_ov K2.out hb)
    have J3 := Lib.hid (blk_ov J2.out hb)
    have M3 := Lib.hid (blk_ov M2.out hb)
    have L3 := Lib.hid (blk_ov L2.out hb)
    clear C hb hr HB2 K2 J2 M2 L2 eK6 dK6
    cases r2
    ·go_wp2_with fail
     go_ret
     exact EqC.no (fun e => by cases e; have := HR2.out.2 rfl; cases this) HB3.out
    ·have eM0 := blk_cell M3.out 0
     have dM0 := blk_cell L3.out 0
     have C := Lib.hid (eq61 G w3 _ _ _ _ (F3.out.below stb_sty HG.out HB3.out) (G3.out.below stb_sty HG.out HB3.out) (fun b h => Nat.lt_of_lt_of_le (HG.out b h) HB3.out.size))
     go_wp2_with fail
     refine C.out.mono ?_
     rintro e w4 ⟨r3, rfl, hr, hb⟩
     have HR3 := Lib.hid hr
     have HB4 := Lib.hid (HB3.out.trans (hb.mono HB3.out.size))
     have K4 := Lib.hid (blk_ov K3.out hb)
     have J4 := Lib.hid (blk_ov J3.out hb)
     have M4 := Lib.hid (blk_ov M3.out hb)
     have L4 := Lib.hid (blk_ov L3.out hb)
     clear C hb hr HB3 K3 J3 M3 L3 eM0 dM0
     cases r3
     ·go_wp2_with fail
      go_ret
      exact EqC.no (fun e => by cases e; have := HR3.out.2 rfl; cases this) HB4.out
     ·have eM1 := blk_cell M4.out 1
      have dM1 := blk_cell L4.out 1
      have C := Lib.hid (eqf62 lstP stb_lst one_lst eq57 G w4 _ _ _ _ (F4.out.below stb_lst HG.out HB4.out) (G4.out.below stb_lst HG.out HB4.out) (fun b h => Nat.lt_of_lt_of_le (HG.out b h) HB4.out.size))
      go_wp2_with fail
      refine C.out.mono ?_
      rintro e w5 ⟨r4, rfl, hr, hb⟩
      have HR4 := Lib.hid hr
      have HB5 := Lib.hid (HB4.out.trans (hb.mono HB4.out.size))
      have K5 := Lib.hid (blk_ov K4.out hb)
      have J5 := Lib.hid (blk_ov J4.out hb)
      have M5 := Lib.hid (blk_ov M4.out hb)
      have L5 := Lib.hid (blk_ov L4.out hb)
      clear C hb hr HB4 K4 J4 M4 L4 eM1 dM1
      cases r4
      ·go_wp2_with fail
       go_ret
       exact EqC.no (fun e => by cases e; have := HR4.out.2 rfl; cases this) HB5.out
      ·have eM2 := blk_cell M5.out 2
       have dM2 := blk_cell L5.out 2
       have C := Lib.hid (eq63 G w5 _ _ _ _ (F5.out.below stb_cmt HG.out HB5.out) (G5.out.below stb_cmt HG.out HB5.out) (fun b h => Nat.lt_of_lt_of_le (HG.out b h) HB5.out.size))
       go_wp2_with fail
       refine C.out.mono ?_
       rintro e w6 ⟨r5, rfl, hr, hb⟩
       have HR5 := Lib.hid hr
       have HB6 := Lib.hid (HB5.out.trans (hb.mono HB5.out.size))
       have K6 := Lib.hid (blk_ov K5.out hb)
       have J6 := Lib.hid (blk_ov J5.out hb)
       have M6 := Lib.hid (blk_ov M5.out hb)
       have L6 := Lib.hid (blk_ov L5.out hb)
       clear C hb hr HB5 K5 J5 M5 L5 eM2 dM2
       cases r5
       ·go_wp2_with fail
        go_ret
        exact EqC.no (fun e => by cases e; have := HR5.out.2 rfl; cases this) HB6.out
       ·have eM3 := blk_cell M6.out 3
        have dM3 := blk_cell L6.out 3
        have C := Lib.hid (eq64 G w6 _ _ _ _ (F6.out.below stb_vr HG.out HB6.out) (G6.out.below stb_vr HG.out HB6.out) (fun b h => Nat.lt_of_lt_of_le (HG.out b h) HB6.out.size))
        go_wp2_with fail
        refine C.out.mono ?_
        rintro e w7 ⟨r6, rfl, hr, hb⟩
        have HR6 := Lib.hid hr
        have HB7 := Lib.hid (HB6.out.trans (hb.mono HB6.out.size))
        have K7 := Lib.hid (blk_ov K6.out hb)
        have J7 := Lib.hid (blk_ov J6.out hb)
        have M7 := Lib.hid (blk_ov M6.out hb)
        have L7 := Lib.hid (blk_ov L6.out hb)
        clear C hb hr HB6 K6 J6 M6 L6 eM3 dM3
        cases r6
        ·go_wp2_with fail
         go_ret
         exact EqC.no (fun e => by cases e; have := HR6.out.2 rfl; cases this) HB7.out
        ·go_wp2_with fail
         go_ret
         exact EqC.yes (by rw [HR0.out.1 (by trivial), HR1.out.1 (by trivial), HR2.out.1 (by trivial), HR3.out.1 (by trivial), HR4.out.1 (by trivial), HR5.out.1 (by trivial), HR6.out.1 (by trivial)]) HB7.out
end Go.Proofs.YtmhhcfceikcfbaaGreat
