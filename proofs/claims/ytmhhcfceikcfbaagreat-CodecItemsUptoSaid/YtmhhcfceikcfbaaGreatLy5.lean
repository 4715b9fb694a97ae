/- Walks: the law's readers of pieces and splices; the records of edits and splices. -/
import Derived.Test.YtmhhcfceikcfbaaGreatLy3
import Derived.Test.YtmhhcfceikcfbaaGreatLy4
import Derived.Test.YtmhhcfceikcfbaaGreatR11
import Derived.Test.YtmhhcfceikcfbaaGreatTr
namespace Go.Proofs.YtmhhcfceikcfbaaGreat
open Go.RowKit

set_option maxRecDepth 100000 in
set_option maxHeartbeats 4000000 in
theorem lr27_none (s : ByteArray) (hs : s.size ≤ 549755813888) (r k0 : Nat) (e0 : Int) (w : World) (h : Rdr 30 r s k0 e0 w) (hk0 : k0 ≤ s.size) (hn : e0 = 0 → False) :
    Calls Tryz.prog 27 #[.pointer (some ⟨r, 0, none⟩)] w (ListC (itP 0) (itR 0) 11 30 r s k0 e0 w) := by
  have C := Lib.hid (size73 r k0 s e0 w h hk0 (by omega))
  clear h
  go_enter Tryz.func27, Tryz.ntmps27
  go_wp2_with fail
  refine C.out.mono ?_
  rintro e w1 ⟨m, k1, e1, rfl, hkm, hn0, hr, hg, hsz⟩
  have he : e1 ≠ 0 := fun q => hn (by subst q; exact hsz.szPos.1)
  have hm : m = 0 := hn0 he
  subst hm
  have HL : Hid (ListC (itP 0) (itR 0) 11 30 r s k0 e0 w (.returned (.slice none 0 0)) w1) := Lib.hid ⟨_, [], k1, e1, rfl, Slv.nil _ _, hr, hg, hsz.list (Res.many0 _ _ _ _ hsz.1)⟩
  clear C hr hg hsz hn0 hkm he
  go_wp2_with fail
  go_loopw [3, 4] (fun ov nv wr => ov = .slice none 0 0 ∧ nv = .int .i64 0 ∧ wr = w1) (fun _ _ _ => 0)
  case atStart => exact ⟨rfl, rfl, rfl⟩
  case round =>
    obtain ⟨rfl, rfl, rfl⟩ := hrel
    go_wp2_with fail
    go_ret
    exact HL.out

theorem lr_items (s : ByteArray) (hs : s.size ≤ 549755813888) : ∀ n, LItemsR (itP n) (itR n) n s
  | 0 => fun r k e w h hk hn => lr27_none s hs r k e w h hk (fun h0 => by have := hn h0; omega)
  | n + 1 => fun r k e w h hk hn => lr27_step (itP n) (itR n) (stb_it n) n s hs (lr_items s hs n) r k e w h hk hn
set_option maxRecDepth 100000 in
set_option maxHeartbeats 4000000 in
theorem lr96 (n : Nat) (r k0 : Nat) (s : ByteArray) (e0 : Int) (w : World) (h : Rdr 30 r s k0 e0 w) (hk0 : k0 ≤ s.size) (hs : s.size ≤ 549755813888) (D0 : e0 = 0 → s.size - k0 < n) :
    Calls Tryz.prog 96 #[.pointer (some ⟨r, 0, none⟩)] w (RecC (pcP n) (pcR n) 12 30 r s k0 e0 w) := by
  have hrl := lt_of_blk h
  have I0 : InvN 75 30 r (w.heap.size + 1) s w (w.heap.size + 2) k0 e0 #[.slice none 0 0, .slice none 0 0, .slice none 0 0, .slice none 0 0, .int .i64 0, .int .i64 0, .slice none 0 0, .slice none 0 0, .slice none 0 0, .slice none 0 0, .slice none 0 0, .slice none 0 0] ((w.alloc (.cells #[.slice none 0 0, .slice none 0 0, .slice none 0 0, .slice none 0 0, .int .i64 0, .int .i64 0, .slice none 0 0, .slice none 0 0, .slice none 0 0, .slice none 0 0, .slice none 0 0, .slice none 0 0] 75)).alloc (.cells #[.slice none 0 0, .slice none 0 0, .slice none 0 0, .slice none 0 0, .int .i64 0, .int .i64 0, .slice none 0 0, .slice none 0 0, .slice none 0 0, .slice none 0 0, .slice none 0 0, .slice none 0 0] 75)) := ⟨(h.alloc _).alloc _, hk0, heap_alloc_new' _ _ (by simp), grown_alloc (grown_alloc (grown_refl w (some r)) _) _, by omega, by omega, by omega, by omega, by simp⟩
  have HZ : ((w.alloc (.cells #[.slice none 0 0, .slice none 0 0, .slice none 0 0, .slice none 0 0, .int .i64 0, .int .i64 0, .slice none 0 0, .slice none 0 0, .slice none 0 0, .slice none 0 0, .slice none 0 0, .slice none 0 0] 75)).alloc (.cells #[.slice none 0 0, .slice none 0 0, .slice none 0 0, .slice none 0 0, .int .i64 0, .int .i64 0, .slice none 0 0, .slice none 0 0, .slice none 0 0, .slice none 0 0, .slice none 0 0, .slice none 0 0] 75)).heap[w.heap.size]? = some (.cells #[.slice none 0 0, .slice none 0 0, .slice none 0 0, .slice none 0 0, .int .i64 0, .int .i64 0, .slice none 0 0, .slice none 0 0, .slice none 0 0, .slice none 0 0, .slice none 0 0, .slice none 0 0] 75 (0, 0)) := (Below.heap_alloc _ _ _ (by simp)).trans (heap_alloc_new w _)
  clear h
  go_enter Tryz.func96, Tryz.ntmps96
  go_upto_region 2 with fail
  refine wp_region_seq0 (by rfl) ?_
  simp only [List.map]
  refine sq_pure (.pointer (some ⟨r, 0, none⟩)) (by go_simp) trivial ?_
  simp only [Act.put, List.setIfInBounds_toArray, List.set_cons_zero, List.set_cons_succ]
  refine sq_call 27 #[.pointer (some ⟨r, 0, none⟩)] (by go_simp) ?_
  refine Calls.mono (lr_items s hs n r k0 e0 _ I0.rdr I0.le D0) ?_
  rintro e w1 ⟨v1, x1, k1, e1, rfl, hR1, h1, hg, hs1⟩
  obtain ⟨A1, c1, hv1, _, _⟩ := hR1.shape
  subst hv1
  replace HZ := (hg.block _ (lt_of_blk HZ) (fun q => by injection q with q; omega)).trans HZ
  have F1 := Slv.since (stb_it n) hR1 I0.aw
  clear hR1
  have I1 := I0.call h1 hs1.1 hg
  clear I0 h1 hg
  have D1 := deep_next D0 hs1
  clear D0
  refine ⟨_, rfl, trivial, ?_⟩
  simp only [Act.put, List.setIfInBounds_toArray, List.set_cons_zero, List.set_cons_succ]
  refine sq_pure (.pointer (some ⟨w.heap.size + 1, 0, none⟩)) (by go_simp) trivial ?_
  simp only [Act.put, List.setIfInBounds_toArray, List.set_cons_zero, List.set_cons_succ]
  refine sq_store 33 _ _ rfl rfl (w.heap.size + 1) 0 75 _ #[.slice A1 x1.length c1, .slice none 0 0, .slice none 0 0, .slice none 0 0, .int .i64 0, .int .i64 0, .slice none 0 0, .slice none 0 0, .slice none 0 0, .slice none 0 0, .slice none 0 0, .slice none 0 0] [.slice A1 x1.length c1] rfl rfl I1.blk sz33 (one1 rfl) rfl (by simp) ?_
  intro w' hb hg
  replace F1 := Slv.grow (stb_it n) F1 hg (I1.ga)
  replace HZ := (hg.block _ (lt_of_blk HZ) (fun q => by injection q with q; omega)).trans HZ
  replace I1 := I1.store hb hg
  clear hb hg
  refine ⟨trivial, sq_done ?_⟩
  go_upto_region 3 with fail
  refine wp_region_seq0 (by rfl) ?_
  simp only [List.map]
  refine sq_pure (.pointer (some ⟨r, 0, none⟩)) (by go_simp) trivial ?_
  simp only [Act.put, List.setIfInBounds_toArray, List.set_cons_zero, List.set_cons_succ]
  refine sq_call 76 #[.pointer (some ⟨r, 0, none⟩)] (by go_simp) ?_
  refine Calls.mono (lr76 (itP n) (itR n) (stb_it n) n s hs (lr_items s hs n) r k1 e1 _ I1.rdr I1.le D1) ?_
  rintro e w2 ⟨v2, x2, k2, e2, rfl, hR2, h2, hg, hs2⟩
  obtain ⟨A2, c2, hv2, _, _⟩ := hR2.shape
  subst hv2
  replace F1 := Slv.grow (stb_it n) F1 hg (I1.ra)
  replace HZ := (hg.block _ (lt_of_blk HZ) (fun q => by injection q with q; omega)).trans HZ
  have F2 := Slv.since (stb_rw (stb_it n)) hR2 I1.aw
  clear hR2
  have I2 := I1.call h2 hs2.1 hg
  clear I1 h2 hg
  have D2 := deep_next D1 hs2
  clear D1
  refine ⟨_, rfl, trivial, ?_⟩
  simp only [Act.put, List.setIfInBounds_toArray, List.set_cons_zero, List.set_cons_succ]
  refine sq_pure (.pointer (some ⟨w.heap.size + 1, 1, none⟩)) (by go_simp) trivial ?_
  simp only [Act.put, List.setIfInBounds_toArray, List.set_cons_zero, List.set_cons_succ]
  refine sq_store 51 _ _ rfl rfl (w.heap.size + 1) 1 75 _ #[.slice A1 x1.length c1, .slice A2 x2.length c2, .slice none 0 0, .slice none 0 0, .int .i64 0, .int .i64 0, .slice none 0 0, .slice none 0 0, .slice none 0 0, .slice none 0 0, .slice none 0 0, .slice none 0 0] [.slice A2 x2.length c2] rfl rfl I2.blk sz51 (one1 rfl) rfl (by simp) ?_
  intro w' hb hg
  replace F1 := Slv.grow (stb_it n) F1 hg (I2.ga)
  replace F2 := Slv.grow (stb_rw (stb_it n)) F2 hg (I2.ga)
  replace HZ := (hg.block _ (lt_of_blk HZ) (fun q => by injection q with q; omega)).trans HZ
  replace I2 := I2.store hb hg
  clear hb hg
  refine ⟨trivial, sq_done ?_⟩
  go_upto_region 4 with fail
  refine wp_region_seq0 (by rfl) ?_
  simp only [List.map]
  refine sq_pure (.pointer (some ⟨r, 0, none⟩)) (by go_simp) trivial ?_
  simp only [Act.put, List.setIfInBounds_toArray, List.set_cons_zero, List.set_cons_succ]
  refine sq_call 94 #[.pointer (some ⟨r, 0, none⟩)] (by go_simp) ?_
  refine Calls.mono (lr94 (itP n) (itR n) (stb_it n) n s hs (lr_items s hs n) r k2 e2 _ I2.rdr I2.le D2) ?_
  rintro e w3 ⟨v3, x3, k3, e3, rfl, hR3, h3, hg, hs3⟩
  obtain ⟨A3, c3, hv3, _, _⟩ := hR3.shape
  subst hv3
  replace F1 := Slv.grow (stb_it n) F1 hg (I2.ra)
  replace F2 := Slv.grow (stb_rw (stb_it n)) F2 hg (I2.ra)
  replace HZ := (hg.block _ (lt_of_blk HZ) (fun q => by injection q with q; omega)).trans HZ
  have F3 := Slv.since (stb_ce (stb_it n)) hR3 I2.aw
  clear hR3
  have I3 := I2.call h3 hs3.1 hg
  clear I2 h3 hg
  have D3 := deep_next D2 hs3
  clear D2
  refine ⟨_, rfl, trivial, ?_⟩
  simp only [Act.put, List.setIfInBounds_toArray, List.set_cons_zero, List.set_cons_succ]
  refine sq_pure (.pointer (some ⟨w.heap.size + 1, 2, none⟩)) (by go_simp) trivial ?_
  simp only [Act.put, List.setIfInBounds_toArray, List.set_cons_zero, List.set_cons_succ]
  refine sq_store 66 _ _ rfl rfl (w.heap.size + 1) 2 75 _ #[.slice A1 x1.length c1, .slice A2 x2.length c2, .slice A3 x3.length c3, .slice none 0 0, .int .i64 0, .int .i64 0, .slice none 0 0, .slice none 0 0, .slice none 0 0, .slice none 0 0, .slice none 0 0, .slice none 0 0] [.slice A3 x3.length c3] rfl rfl I3.blk sz66 (one1 rfl) rfl (by simp) ?_
  intro w' hb hg
  replace F1 := Slv.grow (stb_it n) F1 hg (I3.ga)
  replace F2 := Slv.grow (stb_rw (stb_it n)) F2 hg (I3.ga)
  replace F3 := Slv.grow (stb_ce (stb_it n)) F3 hg (I3.ga)
  replace HZ := (hg.block _ (lt_of_blk HZ) (fun q => by injection q with q; omega)).trans HZ
  replace I3 := I3.store hb hg
  clear hb hg
  refine ⟨trivial, sq_done ?_⟩
  go_upto_region 5 with fail
  refine wp_region_seq0 (by rfl) ?_
  simp only [List.map]
  refine sq_pure (.pointer (some ⟨r, 0, none⟩)) (by go_simp) trivial ?_
  simp only [Act.put, List.setIfInBounds_toArray, List.set_cons_zero, List.set_cons_succ]
  refine sq_call 75 #[.pointer (some ⟨r, 0, none⟩)] (by go_simp) ?_
  refine Calls.mono (lr75 r k3 s e3 _ I3.rdr I3.le hs) ?_
  rintro e w4 ⟨vs4, x4, k4, e4, rfl, hl4, ho4, hR4, h4, hg, hs4⟩
  obtain ⟨u4_0, u4_1, u4_2, u4_3, u4_4, rfl⟩ := len_5 hl4
  replace F1 := Slv.grow (stb_it n) F1 hg (I3.ra)
  replace F2 := Slv.grow (stb_rw (stb_it n)) F2 hg (I3.ra)
  replace F3 := Slv.grow (stb_ce (stb_it n)) F3 hg (I3.ra)
  replace HZ := (hg.block _ (lt_of_blk HZ) (fun q => by injection q with q; omega)).trans HZ
  have F4 := Stb.since stb_hd hR4 I3.aw
  clear hR4
  have I4 := I3.call h4 hs4.1 hg
  clear I3 h4 hg
  have D4 := deep_next D3 hs4
  clear D3
  refine ⟨_, rfl, trivial, ?_⟩
  simp only [Act.put, List.setIfInBounds_toArray, List.set_cons_zero, List.set_cons_succ]
  refine sq_pure (.pointer (some ⟨w.heap.size + 1, 3, none⟩)) (by go_simp) trivial ?_
  simp only [Act.put, List.setIfInBounds_toArray, List.set_cons_zero, List.set_cons_succ]
  refine sq_store 40 _ _ rfl rfl (w.heap.size + 1) 3 75 _ #[.slice A1 x1.length c1, .slice A2 x2.length c2, .slice A3 x3.length c3, u4_0, u4_1, u4_2, u4_3, u4_4, .slice none 0 0, .slice none 0 0, .slice none 0 0, .slice none 0 0] [u4_0, u4_1, u4_2, u4_3, u4_4] rfl rfl I4.blk sz40 ho4 rfl (by simp) ?_
  intro w' hb hg
  replace F1 := Slv.grow (stb_it n) F1 hg (I4.ga)
  replace F2 := Slv.grow (stb_rw (stb_it n)) F2 hg (I4.ga)
  replace F3 := Slv.grow (stb_ce (stb_it n)) F3 hg (I4.ga)
  replace F4 := Stb.grow stb_hd hg (I4.ga) F4
  replace HZ := (hg.block _ (lt_of_blk HZ) (fun q => by injection q with q; omega)).trans HZ
  replace I4 := I4.store hb hg
  clear hb hg
  refine ⟨trivial, sq_done ?_⟩
  go_upto_region 6 with fail
  refine wp_region_seq0 (by rfl) ?_
  simp only [List.map]
  refine sq_pure (.pointer (some ⟨r, 0, none⟩)) (by go_simp) trivial ?_
  simp only [Act.put, List.setIfInBounds_toArray, List.set_cons_zero, List.set_cons_succ]
  refine sq_call 95 #[.pointer (some ⟨r, 0, none⟩)] (by go_simp) ?_
  refine Calls.mono (lr95 r k4 s e4 _ I4.rdr I4.le hs) ?_
  rintro e w5 ⟨vs5, x5, k5, e5, rfl, hl5, ho5, hR5, h5, hg, hs5⟩
  obtain ⟨u5_0, u5_1, u5_2, u5_3, rfl⟩ := len_4 hl5
  replace F1 := Slv.grow (stb_it n) F1 hg (I4.ra)
  replace F2 := Slv.grow (stb_rw (stb_it n)) F2 hg (I4.ra)
  replace F3 := Slv.grow (stb_ce (stb_it n)) F3 hg (I4.ra)
  replace F4 := Stb.grow stb_hd hg (I4.ra) F4
  replace HZ := (hg.block _ (lt_of_blk HZ) (fun q => by injection q with q; omega)).trans HZ
  have F5 := Stb.since stb_stg hR5 I4.aw
  clear hR5
  have I5 := I4.call h5 hs5.1 hg
  clear I4 h5 hg
  have D5 := deep_next D4 hs5
  clear D4
  refine ⟨_, rfl, trivial, ?_⟩
  simp only [Act.put, List.setIfInBounds_toArray, List.set_cons_zero, List.set_cons_succ]
  refine sq_pure (.pointer (some ⟨w.heap.size + 1, 8, none⟩)) (by go_simp) trivial ?_
  simp only [Act.put, List.setIfInBounds_toArray, List.set_cons_zero, List.set_cons_succ]
  refine sq_store 47 _ _ rfl rfl (w.heap.size + 1) 8 75 _ #[.slice A1 x1.length c1, .slice A2 x2.length c2, .slice A3 x3.length c3, u4_0, u4_1, u4_2, u4_3, u4_4, u5_0, u5_1, u5_2, u5_3] [u5_0, u5_1, u5_2, u5_3] rfl rfl I5.blk sz47 ho5 rfl (by simp) ?_
  intro w' hb hg
  replace F1 := Slv.grow (stb_it n) F1 hg (I5.ga)
  replace F2 := Slv.grow (stb_rw (stb_it n)) F2 hg (I5.ga)
  replace F3 := Slv.grow (stb_ce (stb_it n)) F3 hg (I5.ga)
  replace F4 := Stb.grow stb_hd hg (I5.ga) F4
  replace F5 := Stb.grow stb_stg hg (I5.ga) F5
  replace HZ := (hg.block _ (lt_of_blk HZ) (fun q => by injection q with q; omega)).trans HZ
  replace I5 := I5.store hb hg
  clear hb hg
  refine ⟨trivial, sq_done ?_⟩
  have FR : pcP n _ (Since (w.heap.size + 2) _) [.slice A1 x1.length c1, .slice A2 x2.length c2, .slice A3 x3.length c3, u4_0, u4_1, u4_2, u4_3, u4_4, u5_0, u5_1, u5_2, u5_3] (x1, x2, x3, x4, x5) := ⟨_, _, _, _, _, _, _, _, _, _, _, _, rfl, F1, F2, F3, F4, F5⟩
  have hone := (one_pc n) _ _ _ _ FR
  clear F1 F2 F3 F4 F5
  go_upto_region 7 with fail
  refine wp_region_seq0 (by rfl) ?_
  simp only [List.map]
  refine sq_load_row 75 _ rfl (w.heap.size + 1) 75 #[.slice A1 x1.length c1, .slice A2 x2.length c2, .slice A3 x3.length c3, u4_0, u4_1, u4_2, u4_3, u4_4, u5_0, u5_1, u5_2, u5_3] _ rfl I5.blk Tryz.underlying75 rfl size75 trivial ?_
  simp only [Act.put, List.setIfInBounds_toArray, List.set_cons_zero, List.set_cons_succ]
  refine sq_store_row 75 _ _ rfl rfl (w.heap.size) 75 _ [.slice A1 x1.length c1, .slice A2 x2.length c2, .slice A3 x3.length c3, u4_0, u4_1, u4_2, u4_3, u4_4, u5_0, u5_1, u5_2, u5_3] rfl rfl HZ size75 hone rfl ?_
  intro w' hb hg
  have hR2 := Stb.grow (stb_pc n) hg (by omega) FR
  have hr2 := (hg.block r (lt_of_blk I5.rdr) (fun q => by injection q with q; omega)).trans I5.rdr
  have hG2 : w.grownBy w' (some r) := ⟨hg.os.trans I5.grown.os, hg.tape.trans I5.grown.tape, hg.output.trans I5.grown.output, Nat.le_trans I5.grown.size hg.size, fun i hi hn => (hg.block i (Nat.lt_of_lt_of_le hi I5.grown.size) (fun q => by injection q with q; omega)).trans (I5.grown.block i hi hn)⟩
  refine ⟨trivial, sq_done ?_⟩
  clear hg
  go_wp2_with fail
  refine bodyPost_ret (v := .agg #[.slice A1 x1.length c1, .slice A2 x2.length c2, .slice A3 x3.length c3, u4_0, u4_1, u4_2, u4_3, u4_4, u5_0, u5_1, u5_2, u5_3]) (results_cell_row rfl _ _ (w.heap.size) 75 #[.slice A1 x1.length c1, .slice A2 x2.length c2, .slice A3 x3.length c3, u4_0, u4_1, u4_2, u4_3, u4_4, u5_0, u5_1, u5_2, u5_3] (0, 0) _ rfl hb Tryz.underlying75 rfl size75) rfl ?_
  exact ⟨[.slice A1 x1.length c1, .slice A2 x2.length c2, .slice A3 x3.length c3, u4_0, u4_1, u4_2, u4_3, u4_4, u5_0, u5_1, u5_2, u5_3], (x1, x2, x3, x4, x5), k5, e5, rfl, rfl, hone, Stb.since (stb_pc n) hR2 (by omega), hr2, hG2, (hs1.seq (hs2.seq (hs3.seq (hs4.seq hs5))))⟩

set_option maxRecDepth 100000 in
set_option maxHeartbeats 4000000 in
theorem lr40 (n : Nat) (r k0 : Nat) (s : ByteArray) (e0 : Int) (w : World) (h : Rdr 30 r s k0 e0 w) (hk0 : k0 ≤ s.size) (hs : s.size ≤ 549755813888) (D0 : e0 = 0 → s.size - k0 < n) :
    Calls Tryz.prog 40 #[.pointer (some ⟨r, 0, none⟩)] w (RecC (spP n) (spR n) 28 30 r s k0 e0 w) := by
  have hrl := lt_of_blk h
  have I0 : InvN 77 30 r (w.heap.size + 1) s w (w.heap.size + 2) k0 e0 #[.int .i64 0, .int .i64 0, .int .i64 0, .int .i64 0, .slice none 0 0, .slice none 0 0, .slice none 0 0, .slice none 0 0, .int .i64 0, .int .i64 0, .slice none 0 0, .slice none 0 0, .slice none 0 0, .slice none 0 0, .slice none 0 0, .slice none 0 0, .slice none 0 0, .slice none 0 0, .slice none 0 0, .slice none 0 0, .int .i64 0, .int .i64 0, .slice none 0 0, .slice none 0 0, .slice none 0 0, .slice none 0 0, .slice none 0 0, .slice none 0 0] ((w.alloc (.cells #[.int .i64 0, .int .i64 0, .int .i64 0, .int .i64 0, .slice none 0 0, .slice none 0 0, .slice none 0 0, .slice none 0 0, .int .i64 0, .int .i64 0, .slice none 0 0, .slice none 0 0, .slice none 0 0, .slice none 0 0, .slice none 0 0, .slice none 0 0, .slice none 0 0, .slice none 0 0, .slice none 0 0, .slice none 0 0, .int .i64 0, .int .i64 0, .slice none 0 0, .slice none 0 0, .slice none 0 0, .slice none 0 0, .slice none 0 0, .slice none 0 0] 77)).alloc (.cells #[.int .i64 0, .int .i64 0, .int .i64 0, .int .i64 0, .slice none 0 0, .slice none 0 0, .slice none 0 0, .slice none 0 0, .int .i64 0, .int .i64 0, .slice none 0 0, .slice none 0 0, .slice none 0 0, .slice none 0 0, .slice none 0 0, .slice none 0 0, .slice none 0 0, .slice none 0 0, .slice none 0 0, .slice none 0 0, .int .i64 0, .int .i64 0, .slice none 0 0, .slice none 0 0, .slice none 0 0, .slice none 0 0, .slice none 0 0, .slice none 0 0] 77)) := ⟨(h.alloc _).alloc _, hk0, heap_alloc_new' _ _ (by simp), grown_alloc (grown_alloc (grown_refl w (some r)) _) _, by omega, by omega, by omega, by omega, by simp⟩
  have HZ : ((w.alloc (.cells #[.int .i64 0, .int .i64 0, .int .i64 0, .int .i64 0, .slice none 0 0, .slice none 0 0, .slice none 0 0, .slice none 0 0, .int .i64 0, .int .i64 0, .slice none 0 0, .slice none 0 0, .slice none 0 0, .slice none 0 0, .slice none 0 0, .slice none 0 0, .slice none 0 0, .slice none 0 0, .slice none 0 0, .slice none 0 0, .int .i64 0, .int .i64 0, .slice none 0 0, .slice none 0 0, .slice none 0 0, .slice none 0 0, .slice none 0 0, .slice none 0 0] 77)).alloc (.cells #[.int .i64 0, .int .i64 0, .int .i64 0, .int .i64 0, .slice none 0 0, .slice none 0 0, .slice none 0 0, .slice none 0 0, .int .i64 0, .int .i64 0, .slice none 0 0, .slice none 0 0, .slice none 0 0, .slice none 0 0, .slice none 0 0, .slice none 0 0, .slice none 0 0, .slice none 0 0, .slice none 0 0, .slice none 0 0, .int .i64 0, .int .i64 0, .slice none 0 0, .slice none 0 0, .slice none 0 0, .slice none 0 0, .slice none 0 0, .slice none 0 0] 77)).heap[w.heap.size]? = some (.cells #[.int .i64 0, .int .i64 0, .int .i64 0, .int .i64 0, .slice none 0 0, .slice none 0 0, .slice none 0 0, .slice none 0 0, .int .i64 0, .int .i64 0, .slice none 0 0, .slice none 0 0, .slice none 0 0, .slice none 0 0, .slice none 0 0, .slice none 0 0, .slice none 0 0, .slice none 0 0, .slice none 0 0, .slice none 0 0, .int .i64 0, .int .i64 0, .slice none 0 0, .slice none 0 0, .slice none 0 0, .slice none 0 0, .slice none 0 0, .slice none 0 0] 77 (0, 0)) := (Below.heap_alloc _ _ _ (by simp)).trans (heap_alloc_new w _)
  clear h
  go_enter Tryz.func40, Tryz.ntmps40
  go_upto_region 2 with fail
  refine wp_region_seq0 (by rfl) ?_
  simp only [List.map]
  refine sq_pure (.pointer (some ⟨r, 0, none⟩)) (by go_simp) trivial ?_
  simp only [Act.put, List.setIfInBounds_toArray, List.set_cons_zero, List.set_cons_succ]
  refine sq_call 17 #[.pointer (some ⟨r, 0, none⟩)] (by go_simp) ?_
  refine Calls.mono (number17_any r k0 s e0 _ I0.rdr I0.le (by omega)) ?_
  rintro e w1 ⟨x1, k1, e1, rfl, hx1, h1, hg, hs1⟩
  replace HZ := (hg.block _ (lt_of_blk HZ) (fun q => by injection q with q; omega)).trans HZ
  have I1 := I0.call h1 hs1.1 hg
  clear I0 h1 hg
  have D1 := deep_next D0 hs1
  clear D0
  refine ⟨_, rfl, trivial, ?_⟩
  simp only [Act.put, List.setIfInBounds_toArray, List.set_cons_zero, List.set_cons_succ]
  refine sq_pure (.pointer (some ⟨w.heap.size + 1, 0, none⟩)) (by go_simp) trivial ?_
  simp only [Act.put, List.setIfInBounds_toArray, List.set_cons_zero, List.set_cons_succ]
  refine sq_store 3 _ _ rfl rfl (w.heap.size + 1) 0 77 _ #[.int .i64 x1, .int .i64 0, .int .i64 0, .int .i64 0, .slice none 0 0, .slice none 0 0, .slice none 0 0, .slice none 0 0, .int .i64 0, .int .i64 0, .slice none 0 0, .slice none 0 0, .slice none 0 0, .slice none 0 0, .slice none 0 0, .slice none 0 0, .slice none 0 0, .slice none 0 0, .slice none 0 0, .slice none 0 0, .int .i64 0, .int .i64 0, .slice none 0 0, .slice none 0 0, .slice none 0 0, .slice none 0 0, .slice none 0 0, .slice none 0 0] [.int .i64 x1] rfl rfl I1.blk sz3 (one1 rfl) (putAll_mid [] [.int .i64 0] [.int .i64 0, .int .i64 0, .int .i64 0, .slice none 0 0, .slice none 0 0, .slice none 0 0, .slice none 0 0, .int .i64 0, .int .i64 0, .slice none 0 0, .slice none 0 0, .slice none 0 0, .slice none 0 0, .slice none 0 0, .slice none 0 0, .slice none 0 0, .slice none 0 0, .slice none 0 0, .slice none 0 0, .int .i64 0, .int .i64 0, .slice none 0 0, .slice none 0 0, .slice none 0 0, .slice none 0 0, .slice none 0 0, .slice none 0 0] [.int .i64 x1] rfl) (by simp) ?_
  intro w' hb hg
  replace HZ := (hg.block _ (lt_of_blk HZ) (fun q => by injection q with q; omega)).trans HZ
  replace I1 := I1.store hb hg
  clear hb hg
  refine ⟨trivial, sq_done ?_⟩
  go_upto_region 3 with fail
  refine wp_region_seq0 (by rfl) ?_
  simp only [List.map]
  refine sq_pure (.pointer (some ⟨r, 0, none⟩)) (by go_simp) trivial ?_
  simp only [Act.put, List.setIfInBounds_toArray, List.set_cons_zero, List.set_cons_succ]
  refine sq_call 17 #[.pointer (some ⟨r, 0, none⟩)] (by go_simp) ?_
  refine Calls.mono (number17_any r k1 s e1 _ I1.rdr I1.le (by omega)) ?_
  rintro e w2 ⟨x2, k2, e2, rfl, hx2, h2, hg, hs2⟩
  replace HZ := (hg.block _ (lt_of_blk HZ) (fun q => by injection q with q; omega)).trans HZ
  have I2 := I1.call h2 hs2.1 hg
  clear I1 h2 hg
  have D2 := deep_next D1 hs2
  clear D1
  refine ⟨_, rfl, trivial, ?_⟩
  simp only [Act.put, List.setIfInBounds_toArray, List.set_cons_zero, List.set_cons_succ]
  refine sq_pure (.pointer (some ⟨w.heap.size + 1, 1, none⟩)) (by go_simp) trivial ?_
  simp only [Act.put, List.setIfInBounds_toArray, List.set_cons_zero, List.set_cons_succ]
  refine sq_store 3 _ _ rfl rfl (w.heap.size + 1) 1 77 _ #[.int .i64 x1, .int .i64 x2, .int .i64 0, .int .i64 0, .slice none 0 0, .slice none 0 0, .slice none 0 0, .slice none 0 0, .int .i64 0, .int .i64 0, .slice none 0 0, .slice none 0 0, .slice none 0 0, .slice none 0 0, .slice none 0 0, .slice none 0 0, .slice none 0 0, .slice none 0 0, .slice none 0 0, .slice none 0 0, .int .i64 0, .int .i64 0, .slice none 0 0, .slice none 0 0, .slice none 0 0, .slice none 0 0, .slice none 0 0, .slice none 0 0] [.int .i64 x2] rfl rfl I2.blk sz3 (one1 rfl) (putAll_mid [.int .i64 x1] [.int .i64 0] [.int .i64 0, .int .i64 0, .slice none 0 0, .slice none 0 0, .slice none 0 0, .slice none 0 0, .int .i64 0, .int .i64 0, .slice none 0 0, .slice none 0 0, .slice none 0 0, .slice none 0 0, .slice none 0 0, .slice none 0 0, .slice none 0 0, .slice none 0 0, .slice none 0 0, .slice none 0 0, .int .i64 0, .int .i64 0, .slice none 0 0, .slice none 0 0, .slice none 0 0, .slice none 0 0, .slice none 0 0, .slice none 0 0] [.int .i64 x2] rfl) (by simp) ?_
  intro w' hb hg
  replace HZ := (hg.block _ (lt_of_blk HZ) (fun q => by injection q with q; omega)).trans HZ
  replace I2 := I2.store hb hg
  clear hb hg
  refine ⟨trivial, sq_done ?_⟩
  go_upto_region 4 with fail
  refine wp_region_seq0 (by rfl) ?_
  simp only [List.map]
  refine sq_pure (.pointer (some ⟨r, 0, none⟩)) (by go_simp) trivial ?_
  simp only [Act.put, List.setIfInBounds_toArray, List.set_cons_zero, List.set_cons_succ]
  refine sq_call 17 #[.pointer (some ⟨r, 0, none⟩)] (by go_simp) ?_
  refine Calls.mono (number17_any r k2 s e2 _ I2.rdr I2.le (by omega)) ?_
  rintro e w3 ⟨x3, k3, e3, rfl, hx3, h3, hg, hs3⟩
  replace HZ := (hg.block _ (lt_of_blk HZ) (fun q => by injection q with q; omega)).trans HZ
  have I3 := I2.call h3 hs3.1 hg
  clear I2 h3 hg
  have D3 := deep_next D2 hs3
  clear D2
  refine ⟨_, rfl, trivial, ?_⟩
  simp only [Act.put, List.setIfInBounds_toArray, List.set_cons_zero, List.set_cons_succ]
  refine sq_pure (.pointer (some ⟨w.heap.size + 1, 2, none⟩)) (by go_simp) trivial ?_
  simp only [Act.put, List.setIfInBounds_toArray, List.set_cons_zero, List.set_cons_succ]
  refine sq_store 3 _ _ rfl rfl (w.heap.size + 1) 2 77 _ #[.int .i64 x1, .int .i64 x2, .int .i64 x3, .int .i64 0, .slice none 0 0, .slice none 0 0, .slice none 0 0, .slice none 0 0, .int .i64 0, .int .i64 0, .slice none 0 0, .slice none 0 0, .slice none 0 0, .slice none 0 0, .slice none 0 0, .slice none 0 0, .slice none 0 0, .slice none 0 0, .slice none 0 0, .slice none 0 0, .int .i64 0, .int .i64 0, .slice none 0 0, .slice none 0 0, .slice none 0 0, .slice none 0 0, .slice none 0 0, .slice none 0 0] [.int .i64 x3] rfl rfl I3.blk sz3 (one1 rfl) (putAll_mid [.int .i64 x1, .int .i64 x2] [.int .i64 0] [.int .i64 0, .slice none 0 0, .slice none 0 0, .slice none 0 0, .slice none 0 0, .int .i64 0, .int .i64 0, .slice none 0 0, .slice none 0 0, .slice none 0 0, .slice none 0 0, .slice none 0 0, .slice none 0 0, .slice none 0 0, .slice none 0 0, .slice none 0 0, .slice none 0 0, .int .i64 0, .int .i64 0, .slice none 0 0, .slice none 0 0, .slice none 0 0, .slice none 0 0, .slice none 0 0, .slice none 0 0] [.int .i64 x3] rfl) (by simp) ?_
  intro w' hb hg
  replace HZ := (hg.block _ (lt_of_blk HZ) (fun q => by injection q with q; omega)).trans HZ
  replace I3 := I3.store hb hg
  clear hb hg
  refine ⟨trivial, sq_done ?_⟩
  go_upto_region 5 with fail
  refine wp_region_seq0 (by rfl) ?_
  simp only [List.map]
  refine sq_pure (.pointer (some ⟨r, 0, none⟩)) (by go_simp) trivial ?_
  simp only [Act.put, List.setIfInBounds_toArray, List.set_cons_zero, List.set_cons_succ]
  refine sq_call 17 #[.pointer (some ⟨r, 0, none⟩)] (by go_simp) ?_
  refine Calls.mono (number17_any r k3 s e3 _ I3.rdr I3.le (by omega)) ?_
  rintro e w4 ⟨x4, k4, e4, rfl, hx4, h4, hg, hs4⟩
  replace HZ := (hg.block _ (lt_of_blk HZ) (fun q => by injection q with q; omega)).trans HZ
  have I4 := I3.call h4 hs4.1 hg
  clear I3 h4 hg
  have D4 := deep_next D3 hs4
  clear D3
  refine ⟨_, rfl, trivial, ?_⟩
  simp only [Act.put, List.setIfInBounds_toArray, List.set_cons_zero, List.set_cons_succ]
  refine sq_pure (.pointer (some ⟨w.heap.size + 1, 3, none⟩)) (by go_simp) trivial ?_
  simp only [Act.put, List.setIfInBounds_toArray, List.set_cons_zero, List.set_cons_succ]
  refine sq_store 3 _ _ rfl rfl (w.heap.size + 1) 3 77 _ #[.int .i64 x1, .int .i64 x2, .int .i64 x3, .int .i64 x4, .slice none 0 0, .slice none 0 0, .slice none 0 0, .slice none 0 0, .int .i64 0, .int .i64 0, .slice none 0 0, .slice none 0 0, .slice none 0 0, .slice none 0 0, .slice none 0 0, .slice none 0 0, .slice none 0 0, .slice none 0 0, .slice none 0 0, .slice none 0 0, .int .i64 0, .int .i64 0, .slice none 0 0, .slice none 0 0, .slice none 0 0, .slice none 0 0, .slice none 0 0, .slice none 0 0] [.int .i64 x4] rfl rfl I4.blk sz3 (one1 rfl) (putAll_mid [.int .i64 x1, .int .i64 x2, .int .i64 x3] [.int .i64 0] [.slice none 0 0, .slice none 0 0, .slice none 0 0, .slice none 0 0, .int .i64 0, .int .i64 0, .slice none 0 0, .slice none 0 0, .slice none 0 0, .slice none 0 0, .slice none 0 0, .slice none 0 0, .slice none 0 0, .slice none 0 0, .slice none 0 0, .slice none 0 0, .int .i64 0, .int .i64 0, .slice none 0 0, .slice none 0 0, .slice none 0 0, .slice none 0 0, .slice none 0 0, .slice none 0 0] [.int .i64 x4] rfl) (by simp) ?_
  intro w' hb hg
  replace HZ := (hg.block _ (lt_of_blk HZ) (fun q => by injection q with q; omega)).trans HZ
  replace I4 := I4.store hb hg
  clear hb hg
  refine ⟨trivial, sq_done ?_⟩
  go_upto_region 6 with fail
  refine wp_region_seq0 (by rfl) ?_
  simp only [List.map]
  refine sq_pure (.pointer (some ⟨r, 0, none⟩)) (by go_simp) trivial ?_
  simp only [Act.put, List.setIfInBounds_toArray, List.set_cons_zero, List.set_cons_succ]
  refine sq_call 96 #[.pointer (some ⟨r, 0, none⟩)] (by go_simp) ?_
  refine Calls.mono (lr96 n r k4 s e4 _ I4.rdr I4.le hs D4) ?_
  rintro e w5 ⟨vs5, x5, k5, e5, rfl, hl5, ho5, hR5, h5, hg, hs5⟩
  obtain ⟨u5_0, u5_1, u5_2, u5_3, u5_4, u5_5, u5_6, u5_7, u5_8, u5_9, u5_10, u5_11, rfl⟩ := len_12 hl5
  replace HZ := (hg.block _ (lt_of_blk HZ) (fun q => by injection q with q; omega)).trans HZ
  have F5 := Stb.since (stb_pc n) hR5 I4.aw
  clear hR5
  have I5 := I4.call h5 hs5.1 hg
  clear I4 h5 hg
  have D5 := deep_next D4 hs5
  clear D4
  refine ⟨_, rfl, trivial, ?_⟩
  simp only [Act.put, List.setIfInBounds_toArray, List.set_cons_zero, List.set_cons_succ]
  refine sq_pure (.pointer (some ⟨w.heap.size + 1, 4, none⟩)) (by go_simp) trivial ?_
  simp only [Act.put, List.setIfInBounds_toArray, List.set_cons_zero, List.set_cons_succ]
  refine sq_store 75 _ _ rfl rfl (w.heap.size + 1) 4 77 _ #[.int .i64 x1, .int .i64 x2, .int .i64 x3, .int .i64 x4, u5_0, u5_1, u5_2, u5_3, u5_4, u5_5, u5_6, u5_7, u5_8, u5_9, u5_10, u5_11, .slice none 0 0, .slice none 0 0, .slice none 0 0, .slice none 0 0, .int .i64 0, .int .i64 0, .slice none 0 0, .slice none 0 0, .slice none 0 0, .slice none 0 0, .slice none 0 0, .slice none 0 0] [u5_0, u5_1, u5_2, u5_3, u5_4, u5_5, u5_6, u5_7, u5_8, u5_9, u5_10, u5_11] rfl rfl I5.blk sz75 ho5 (putAll_mid [.int .i64 x1, .int .i64 x2, .int .i64 x3, .int .i64 x4] [.slice none 0 0, .slice none 0 0, .slice none 0 0, .slice none 0 0, .int .i64 0, .int .i64 0, .slice none 0 0, .slice none 0 0, .slice none 0 0, .slice none 0 0, .slice none 0 0, .slice none 0 0] [.slice none 0 0, .slice none 0 0, .slice none 0 0, .slice none 0 0, .int .i64 0, .int .i64 0, .slice none 0 0, .slice none 0 0, .slice none 0 0, .slice none 0 0, .slice none 0 0, .slice none 0 0] [u5_0, u5_1, u5_2, u5_3, u5_4, u5_5, u5_6, u5_7, u5_8, u5_9, u5_10, u5_11] rfl) (by simp) ?_
  intro w' hb hg
  replace F5 := Stb.grow (stb_pc n) hg (I5.ga) F5
  replace HZ := (hg.block _ (lt_of_blk HZ) (fun q => by injection q with q; omega)).trans HZ
  replace I5 := I5.store hb hg
  clear hb hg
  refine ⟨trivial, sq_done ?_⟩
  go_upto_region 7 with fail
  refine wp_region_seq0 (by rfl) ?_
  simp only [List.map]
  refine sq_pure (.pointer (some ⟨r, 0, none⟩)) (by go_simp) trivial ?_
  simp only [Act.put, List.setIfInBounds_toArray, List.set_cons_zero, List.set_cons_succ]
  refine sq_call 96 #[.pointer (some ⟨r, 0, none⟩)] (by go_simp) ?_
  refine Calls.mono (lr96 n r k5 s e5 _ I5.rdr I5.le hs D5) ?_
  rintro e w6 ⟨vs6, x6, k6, e6, rfl, hl6, ho6, hR6, h6, hg, hs6⟩
  obtain ⟨u6_0, u6_1, u6_2, u6_3, u6_4, u6_5, u6_6, u6_7, u6_8, u6_9, u6_10, u6_11, rfl⟩ := len_12 hl6
  replace F5 := Stb.grow (stb_pc n) hg (I5.ra) F5
  replace HZ := (hg.block _ (lt_of_blk HZ) (fun q => by injection q with q; omega)).trans HZ
  have F6 := Stb.since (stb_pc n) hR6 I5.aw
  clear hR6
  have I6 := I5.call h6 hs6.1 hg
  clear I5 h6 hg
  have D6 := deep_next D5 hs6
  clear D5
  refine ⟨_, rfl, trivial, ?_⟩
  simp only [Act.put, List.setIfInBounds_toArray, List.set_cons_zero, List.set_cons_succ]
  refine sq_pure (.pointer (some ⟨w.heap.size + 1, 16, none⟩)) (by go_simp) trivial ?_
  simp only [Act.put, List.setIfInBounds_toArray, List.set_cons_zero, List.set_cons_succ]
  refine sq_store 75 _ _ rfl rfl (w.heap.size + 1) 16 77 _ #[.int .i64 x1, .int .i64 x2, .int .i64 x3, .int .i64 x4, u5_0, u5_1, u5_2, u5_3, u5_4, u5_5, u5_6, u5_7, u5_8, u5_9, u5_10, u5_11, u6_0, u6_1, u6_2, u6_3, u6_4, u6_5, u6_6, u6_7, u6_8, u6_9, u6_10, u6_11] [u6_0, u6_1, u6_2, u6_3, u6_4, u6_5, u6_6, u6_7, u6_8, u6_9, u6_10, u6_11] rfl rfl I6.blk sz75 ho6 (putAll_mid [.int .i64 x1, .int .i64 x2, .int .i64 x3, .int .i64 x4, u5_0, u5_1, u5_2, u5_3, u5_4, u5_5, u5_6, u5_7, u5_8, u5_9, u5_10, u5_11] [.slice none 0 0, .slice none 0 0, .slice none 0 0, .slice none 0 0, .int .i64 0, .int .i64 0, .slice none 0 0, .slice none 0 0, .slice none 0 0, .slice none 0 0, .slice none 0 0, .slice none 0 0] [] [u6_0, u6_1, u6_2, u6_3, u6_4, u6_5, u6_6, u6_7, u6_8, u6_9, u6_10, u6_11] rfl) (by simp) ?_
  intro w' hb hg
  replace F5 := Stb.grow (stb_pc n) hg (I6.ga) F5
  replace F6 := Stb.grow (stb_pc n) hg (I6.ga) F6
  replace HZ := (hg.block _ (lt_of_blk HZ) (fun q => by injection q with q; omega)).trans HZ
  replace I6 := I6.store hb hg
  clear hb hg
  refine ⟨trivial, sq_done ?_⟩
  have FR : spP n _ (Since (w.heap.size + 2) _) [.int .i64 x1, .int .i64 x2, .int .i64 x3, .int .i64 x4, u5_0, u5_1, u5_2, u5_3, u5_4, u5_5, u5_6, u5_7, u5_8, u5_9, u5_10, u5_11, u6_0, u6_1, u6_2, u6_3, u6_4, u6_5, u6_6, u6_7, u6_8, u6_9, u6_10, u6_11] (x1, x2, x3, x4, x5, x6) := ⟨[u5_0, u5_1, u5_2, u5_3, u5_4, u5_5, u5_6, u5_7, u5_8, u5_9, u5_10, u5_11], [u6_0, u6_1, u6_2, u6_3, u6_4, u6_5, u6_6, u6_7, u6_8, u6_9, u6_10, u6_11], rfl, rfl, ⟨hx1, hx2, hx3, hx4⟩, F5, F6⟩
  have hone := (one_sp n) _ _ _ _ FR
  clear F5 F6
  go_upto_region 8 with fail
  refine wp_region_seq0 (by rfl) ?_
  simp only [List.map]
  refine sq_load_row 77 _ rfl (w.heap.size + 1) 77 #[.int .i64 x1, .int .i64 x2, .int .i64 x3, .int .i64 x4, u5_0, u5_1, u5_2, u5_3, u5_4, u5_5, u5_6, u5_7, u5_8, u5_9, u5_10, u5_11, u6_0, u6_1, u6_2, u6_3, u6_4, u6_5, u6_6, u6_7, u6_8, u6_9, u6_10, u6_11] _ rfl I6.blk Tryz.underlying77 rfl size77 trivial ?_
  simp only [Act.put, List.setIfInBounds_toArray, List.set_cons_zero, List.set_cons_succ]
  refine sq_store_row 77 _ _ rfl rfl (w.heap.size) 77 _ [.int .i64 x1, .int .i64 x2, .int .i64 x3, .int .i64 x4, u5_0, u5_1, u5_2, u5_3, u5_4, u5_5, u5_6, u5_7, u5_8, u5_9, u5_10, u5_11, u6_0, u6_1, u6_2, u6_3, u6_4, u6_5, u6_6, u6_7, u6_8, u6_9, u6_10, u6_11] rfl rfl HZ size77 hone rfl ?_
  intro w' hb hg
  have hR2 := Stb.grow (stb_sp n) hg (by omega) FR
  have hr2 := (hg.block r (lt_of_blk I6.rdr) (fun q => by injection q with q; omega)).trans I6.rdr
  have hG2 : w.grownBy w' (some r) := ⟨hg.os.trans I6.grown.os, hg.tape.trans I6.grown.tape, hg.output.trans I6.grown.output, Nat.le_trans I6.grown.size hg.size, fun i hi hn => (hg.block i (Nat.lt_of_lt_of_le hi I6.grown.size) (fun q => by injection q with q; omega)).trans (I6.grown.block i hi hn)⟩
  refine ⟨trivial, sq_done ?_⟩
  clear hg
  go_wp2_with fail
  refine bodyPost_ret (v := .agg #[.int .i64 x1, .int .i64 x2, .int .i64 x3, .int .i64 x4, u5_0, u5_1, u5_2, u5_3, u5_4, u5_5, u5_6, u5_7, u5_8, u5_9, u5_10, u5_11, u6_0, u6_1, u6_2, u6_3, u6_4, u6_5, u6_6, u6_7, u6_8, u6_9, u6_10, u6_11]) (results_cell_row rfl _ _ (w.heap.size) 77 #[.int .i64 x1, .int .i64 x2, .int .i64 x3, .int .i64 x4, u5_0, u5_1, u5_2, u5_3, u5_4, u5_5, u5_6, u5_7, u5_8, u5_9, u5_10, u5_11, u6_0, u6_1, u6_2, u6_3, u6_4, u6_5, u6_6, u6_7, u6_8, u6_9, u6_10, u6_11] (0, 0) _ rfl hb Tryz.underlying77 rfl size77) rfl ?_
  exact ⟨[.int .i64 x1, .int .i64 x2, .int .i64 x3, .int .i64 x4, u5_0, u5_1, u5_2, u5_3, u5_4, u5_5, u5_6, u5_7, u5_8, u5_9, u5_10, u5_11, u6_0, u6_1, u6_2, u6_3, u6_4, u6_5, u6_6, u6_7, u6_8, u6_9, u6_10, u6_11], (x1, x2, x3, x4, x5, x6), k6, e6, rfl, rfl, hone, Stb.since (stb_sp n) hR2 (by omega), hr2, hG2, (hs1.seq (hs2.seq (hs3.seq (hs4.seq (hs5.seq hs6)))))⟩
end Go.Proofs.YtmhhcfceikcfbaaGreat
