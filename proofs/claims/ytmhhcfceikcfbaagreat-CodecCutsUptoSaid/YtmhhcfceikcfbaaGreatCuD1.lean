/- Walks: edits and splices decoded. -/
import Derived.Test.YtmhhcfceikcfbaaGreatCuK1
namespace Go.Proofs.YtmhhcfceikcfbaaGreat
open Go.RowKit
set_option maxRecDepth 100000
set_option maxHeartbeats 4000000
theorem Dec35 (n:Nat) (s:ByteArray) (w:World) (hs:s.size≤549755813888) (hn:s.size < n) :
  Calls Tryz.prog 35 #[.string s] w (DecC (spP n) (spR n) (sp0 n) s w):=by
 have HZ:(((w.alloc (.cells #[.int .i64 0,.int .i64 0,.int .i64 0,.int .i64 0,.slice none 0 0,.slice none 0 0,.slice none 0 0,.slice none 0 0,.int .i64 0,.int .i64 0,.slice none 0 0,.slice none 0 0,.slice none 0 0,.slice none 0 0,.slice none 0 0,.slice none 0 0,.slice none 0 0,.slice none 0 0,.slice none 0 0,.slice none 0 0,.int .i64 0,.int .i64 0,.slice none 0 0,.slice none 0 0,.slice none 0 0,.slice none 0 0,.slice none 0 0,.slice none 0 0] 77)).alloc (.cells #[.string s,.int .i64 0,.int .i64 0] 99)).alloc (.cells #[.int .i64 0,.int .i64 0,.int .i64 0,.int .i64 0,.slice none 0 0,.slice none 0 0,.slice none 0 0,.slice none 0 0,.int .i64 0,.int .i64 0,.slice none 0 0,.slice none 0 0,.slice none 0 0,.slice none 0 0,.slice none 0 0,.slice none 0 0,.slice none 0 0,.slice none 0 0,.slice none 0 0,.slice none 0 0,.int .i64 0,.int .i64 0,.slice none 0 0,.slice none 0 0,.slice none 0 0,.slice none 0 0,.slice none 0 0,.slice none 0 0] 77)).heap[w.heap.size]? = some (.cells #[.int .i64 0,.int .i64 0,.int .i64 0,.int .i64 0,.slice none 0 0,.slice none 0 0,.slice none 0 0,.slice none 0 0,.int .i64 0,.int .i64 0,.slice none 0 0,.slice none 0 0,.slice none 0 0,.slice none 0 0,.slice none 0 0,.slice none 0 0,.slice none 0 0,.slice none 0 0,.slice none 0 0,.slice none 0 0,.int .i64 0,.int .i64 0,.slice none 0 0,.slice none 0 0,.slice none 0 0,.slice none 0 0,.slice none 0 0,.slice none 0 0] 77 (0,0)):=(Below.heap_alloc _ _ _ (by simp; omega)).trans ((Below.heap_alloc _ _ _ (by simp)).trans (heap_alloc_new w _))
 obtain ⟨k0,e0,hk0,he0,I0⟩:∃ (k0:Nat) (e0:Int),k0 = 0∧e0 = 0∧InvN 77 99 (w.heap.size + 1) (w.heap.size + 2) s w (w.heap.size + 3) k0 e0 #[.int .i64 0,.int .i64 0,.int .i64 0,.int .i64 0,.slice none 0 0,.slice none 0 0,.slice none 0 0,.slice none 0 0,.int .i64 0,.int .i64 0,.slice none 0 0,.slice none 0 0,.slice none 0 0,.slice none 0 0,.slice none 0 0,.slice none 0 0,.slice none 0 0,.slice none 0 0,.slice none 0 0,.slice none 0 0,.int .i64 0,.int .i64 0,.slice none 0 0,.slice none 0 0,.slice none 0 0,.slice none 0 0,.slice none 0 0,.slice none 0 0] (((w.alloc (.cells #[.int .i64 0,.int .i64 0,.int .i64 0,.int .i64 0,.slice none 0 0,.slice none 0 0,.slice none 0 0,.slice none 0 0,.int .i64 0,.int .i64 0,.slice none 0 0,.slice none 0 0,.slice none 0 0,.slice none 0 0,.slice none 0 0,.slice none 0 0,.slice none 0 0,.slice none 0 0,.slice none 0 0,.slice none 0 0,.int .i64 0,.int .i64 0,.slice none 0 0,.slice none 0 0,.slice none 0 0,.slice none 0 0,.slice none 0 0,.slice none 0 0] 77)).alloc (.cells #[.string s,.int .i64 0,.int .i64 0] 99)).alloc (.cells #[.int .i64 0,.int .i64 0,.int .i64 0,.int .i64 0,.slice none 0 0,.slice none 0 0,.slice none 0 0,.slice none 0 0,.int .i64 0,.int .i64 0,.slice none 0 0,.slice none 0 0,.slice none 0 0,.slice none 0 0,.slice none 0 0,.slice none 0 0,.slice none 0 0,.slice none 0 0,.slice none 0 0,.slice none 0 0,.int .i64 0,.int .i64 0,.slice none 0 0,.slice none 0 0,.slice none 0 0,.slice none 0 0,.slice none 0 0,.slice none 0 0] 77)):=⟨0,0,rfl,rfl,⟨(Below.heap_alloc _ _ _ (by simp)).trans (ag _ _ (by simp)),Nat.zero_le _,ag _ _ (by simp),ar (ar (ar (aL w (some (w.heap.size + 1))) _) _) _,by omega,by omega,by omega,by omega,by simp⟩⟩
 have D0:e0 = 0→s.size - k0 < n:=fun _ => by omega
 go_enter Tryz.func35,Tryz.ntmps35
 go_upto_region 3 with fail
 refine af (by rfl) ?_
 simp only [List.map]
 refine sq1p (w.heap.size + 1) 0 ?_
 refine ad 43 #[.pointer (some ⟨w.heap.size + 1,0,none⟩)] (by go_simp) ?_
 refine Calls.mono (aq (w.heap.size + 1) k0 s e0 _ I0.rdr I0.le (by omega)) ?_
 rintro e w1 ⟨x1,k1,e1,rfl,hx1,h1,hg,hs1⟩
 replace HZ:=(hg.block _ (ac HZ) (fun q => by injection q with q; omega)).trans HZ
 have I1:=I0.call h1 hs1.1 hg
 clear I0 h1 hg
 have D1:=aJ D0 hs1
 clear D0
 refine ⟨_,rfl,trivial,?_⟩
 simp only [Act.put,PutA,PutZ,PutS]
 refine sq1p (w.heap.size + 1) 0 ?_
 refine ad 43 #[.pointer (some ⟨w.heap.size + 1,0,none⟩)] (by go_simp) ?_
 refine Calls.mono (aq (w.heap.size + 1) k1 s e1 _ I1.rdr I1.le (by omega)) ?_
 rintro e w2 ⟨x2,k2,e2,rfl,hx2,h2,hg,hs2⟩
 replace HZ:=(hg.block _ (ac HZ) (fun q => by injection q with q; omega)).trans HZ
 have I2:=I1.call h2 hs2.1 hg
 clear I1 h2 hg
 have D2:=aJ D1 hs2
 clear D1
 refine ⟨_,rfl,trivial,?_⟩
 simp only [Act.put,PutA,PutZ,PutS]
 refine sq1p (w.heap.size + 1) 0 ?_
 refine ad 43 #[.pointer (some ⟨w.heap.size + 1,0,none⟩)] (by go_simp) ?_
 refine Calls.mono (aq (w.heap.size + 1) k2 s e2 _ I2.rdr I2.le (by omega)) ?_
 rintro e w3 ⟨x3,k3,e3,rfl,hx3,h3,hg,hs3⟩
 replace HZ:=(hg.block _ (ac HZ) (fun q => by injection q with q; omega)).trans HZ
 have I3:=I2.call h3 hs3.1 hg
 clear I2 h3 hg
 have D3:=aJ D2 hs3
 clear D2
 refine ⟨_,rfl,trivial,?_⟩
 simp only [Act.put,PutA,PutZ,PutS]
 refine sq1p (w.heap.size + 1) 0 ?_
 refine ad 43 #[.pointer (some ⟨w.heap.size + 1,0,none⟩)] (by go_simp) ?_
 refine Calls.mono (aq (w.heap.size + 1) k3 s e3 _ I3.rdr I3.le (by omega)) ?_
 rintro e w4 ⟨x4,k4,e4,rfl,hx4,h4,hg,hs4⟩
 replace HZ:=(hg.block _ (ac HZ) (fun q => by injection q with q; omega)).trans HZ
 have I4:=I3.call h4 hs4.1 hg
 clear I3 h4 hg
 have D4:=aJ D3 hs4
 clear D3
 refine ⟨_,rfl,trivial,?_⟩
 simp only [Act.put,PutA,PutZ,PutS]
 refine sq1p (w.heap.size + 2) 0 ?_
 refine am 3 _ _ rfl rfl ((w.heap.size + 2)) 0 77 _ #[.int .i64 x1,.int .i64 0,.int .i64 0,.int .i64 0,.slice none 0 0,.slice none 0 0,.slice none 0 0,.slice none 0 0,.int .i64 0,.int .i64 0,.slice none 0 0,.slice none 0 0,.slice none 0 0,.slice none 0 0,.slice none 0 0,.slice none 0 0,.slice none 0 0,.slice none 0 0,.slice none 0 0,.slice none 0 0,.int .i64 0,.int .i64 0,.slice none 0 0,.slice none 0 0,.slice none 0 0,.slice none 0 0,.slice none 0 0,.slice none 0 0] [.int .i64 x1] rfl rfl I4.blk sz3 (one1 rfl) (putAll_mid [] [.int .i64 0] [.int .i64 0,.int .i64 0,.int .i64 0,.slice none 0 0,.slice none 0 0,.slice none 0 0,.slice none 0 0,.int .i64 0,.int .i64 0,.slice none 0 0,.slice none 0 0,.slice none 0 0,.slice none 0 0,.slice none 0 0,.slice none 0 0,.slice none 0 0,.slice none 0 0,.slice none 0 0,.slice none 0 0,.int .i64 0,.int .i64 0,.slice none 0 0,.slice none 0 0,.slice none 0 0,.slice none 0 0,.slice none 0 0,.slice none 0 0] [.int .i64 x1] rfl) (by simp) ?_
 intro w' hb hg
 replace HZ:=(hg.block _ (ac HZ) (fun q => by injection q with q; omega)).trans HZ
 replace I4:=I4.store hb hg
 clear hb hg
 refine ⟨trivial,?_⟩
 refine sq1p (w.heap.size + 2) 1 ?_
 refine am 3 _ _ rfl rfl ((w.heap.size + 2)) 1 77 _ #[.int .i64 x1,.int .i64 x2,.int .i64 0,.int .i64 0,.slice none 0 0,.slice none 0 0,.slice none 0 0,.slice none 0 0,.int .i64 0,.int .i64 0,.slice none 0 0,.slice none 0 0,.slice none 0 0,.slice none 0 0,.slice none 0 0,.slice none 0 0,.slice none 0 0,.slice none 0 0,.slice none 0 0,.slice none 0 0,.int .i64 0,.int .i64 0,.slice none 0 0,.slice none 0 0,.slice none 0 0,.slice none 0 0,.slice none 0 0,.slice none 0 0] [.int .i64 x2] rfl rfl I4.blk sz3 (one1 rfl) (putAll_mid [.int .i64 x1] [.int .i64 0] [.int .i64 0,.int .i64 0,.slice none 0 0,.slice none 0 0,.slice none 0 0,.slice none 0 0,.int .i64 0,.int .i64 0,.slice none 0 0,.slice none 0 0,.slice none 0 0,.slice none 0 0,.slice none 0 0,.slice none 0 0,.slice none 0 0,.slice none 0 0,.slice none 0 0,.slice none 0 0,.int .i64 0,.int .i64 0,.slice none 0 0,.slice none 0 0,.slice none 0 0,.slice none 0 0,.slice none 0 0,.slice none 0 0] [.int .i64 x2] rfl) (by simp) ?_
 intro w' hb hg
 replace HZ:=(hg.block _ (ac HZ) (fun q => by injection q with q; omega)).trans HZ
 replace I4:=I4.store hb hg
 clear hb hg
 refine ⟨trivial,?_⟩
 refine sq1p (w.heap.size + 2) 2 ?_
 refine am 3 _ _ rfl rfl ((w.heap.size + 2)) 2 77 _ #[.int .i64 x1,.int .i64 x2,.int .i64 x3,.int .i64 0,.slice none 0 0,.slice none 0 0,.slice none 0 0,.slice none 0 0,.int .i64 0,.int .i64 0,.slice none 0 0,.slice none 0 0,.slice none 0 0,.slice none 0 0,.slice none 0 0,.slice none 0 0,.slice none 0 0,.slice none 0 0,.slice none 0 0,.slice none 0 0,.int .i64 0,.int .i64 0,.slice none 0 0,.slice none 0 0,.slice none 0 0,.slice none 0 0,.slice none 0 0,.slice none 0 0] [.int .i64 x3] rfl rfl I4.blk sz3 (one1 rfl) (putAll_mid [.int .i64 x1,.int .i64 x2] [.int .i64 0] [.int .i64 0,.slice none 0 0,.slice none 0 0,.slice none 0 0,.slice none 0 0,.int .i64 0,.int .i64 0,.slice none 0 0,.slice none 0 0,.slice none 0 0,.slice none 0 0,.slice none 0 0,.slice none 0 0,.slice none 0 0,.slice none 0 0,.slice none 0 0,.slice none 0 0,.int .i64 0,.int .i64 0,.slice none 0 0,.slice none 0 0,.slice none 0 0,.slice none 0 0,.slice none 0 0,.slice none 0 0] [.int .i64 x3] rfl) (by simp) ?_
 intro w' hb hg
 replace HZ:=(hg.block _ (ac HZ) (fun q => by injection q with q; omega)).trans HZ
 replace I4:=I4.store hb hg
 clear hb hg
 refine ⟨trivial,?_⟩
 refine sq1p (w.heap.size + 2) 3 ?_
 refine am 3 _ _ rfl rfl ((w.heap.size + 2)) 3 77 _ #[.int .i64 x1,.int .i64 x2,.int .i64 x3,.int .i64 x4,.slice none 0 0,.slice none 0 0,.slice none 0 0,.slice none 0 0,.int .i64 0,.int .i64 0,.slice none 0 0,.slice none 0 0,.slice none 0 0,.slice none 0 0,.slice none 0 0,.slice none 0 0,.slice none 0 0,.slice none 0 0,.slice none 0 0,.slice none 0 0,.int .i64 0,.int .i64 0,.slice none 0 0,.slice none 0 0,.slice none 0 0,.slice none 0 0,.slice none 0 0,.slice none 0 0] [.int .i64 x4] rfl rfl I4.blk sz3 (one1 rfl) (putAll_mid [.int .i64 x1,.int .i64 x2,.int .i64 x3] [.int .i64 0] [.slice none 0 0,.slice none 0 0,.slice none 0 0,.slice none 0 0,.int .i64 0,.int .i64 0,.slice none 0 0,.slice none 0 0,.slice none 0 0,.slice none 0 0,.slice none 0 0,.slice none 0 0,.slice none 0 0,.slice none 0 0,.slice none 0 0,.slice none 0 0,.int .i64 0,.int .i64 0,.slice none 0 0,.slice none 0 0,.slice none 0 0,.slice none 0 0,.slice none 0 0,.slice none 0 0] [.int .i64 x4] rfl) (by simp) ?_
 intro w' hb hg
 replace HZ:=(hg.block _ (ac HZ) (fun q => by injection q with q; omega)).trans HZ
 replace I4:=I4.store hb hg
 clear hb hg
 refine ⟨trivial,?_⟩
 refine ae ?_
 go_upto_region 4 with fail
 refine af (by rfl) ?_
 simp only [List.map]
 refine sq1p (w.heap.size + 1) 0 ?_
 refine ad 88 #[.pointer (some ⟨w.heap.size + 1,0,none⟩)] (by go_simp) ?_
 refine Calls.mono (rd88 n (w.heap.size + 1) k4 s e4 _ I4.rdr I4.le hs D4) ?_
 rintro e w5 ⟨vs5,x5,k5,e5,rfl,hl5,ho5,hR5,h5,hg,hs5⟩
 obtain ⟨u5_0,u5_1,u5_2,u5_3,u5_4,u5_5,u5_6,u5_7,u5_8,u5_9,u5_10,u5_11,rfl⟩:=len_12 hl5
 replace HZ:=(hg.block _ (ac HZ) (fun q => by injection q with q; omega)).trans HZ
 have F5:=Stb.since (stb_pc n) hR5 I4.aw
 clear hR5
 have I5:=I4.call h5 hs5.1 hg
 clear I4 h5 hg
 have D5:=aJ D4 hs5
 clear D4
 refine ⟨_,rfl,trivial,?_⟩
 simp only [Act.put,PutA,PutZ,PutS]
 refine sq1p (w.heap.size + 1) 0 ?_
 refine ad 88 #[.pointer (some ⟨w.heap.size + 1,0,none⟩)] (by go_simp) ?_
 refine Calls.mono (rd88 n (w.heap.size + 1) k5 s e5 _ I5.rdr I5.le hs D5) ?_
 rintro e w6 ⟨vs6,x6,k6,e6,rfl,hl6,ho6,hR6,h6,hg,hs6⟩
 obtain ⟨u6_0,u6_1,u6_2,u6_3,u6_4,u6_5,u6_6,u6_7,u6_8,u6_9,u6_10,u6_11,rfl⟩:=len_12 hl6
 replace HZ:=(hg.block _ (ac HZ) (fun q => by injection q with q; omega)).trans HZ
 replace F5:=Stb.grow (stb_pc n) hg (I5.ra) F5
 have F6:=Stb.since (stb_pc n) hR6 I5.aw
 clear hR6
 have I6:=I5.call h6 hs6.1 hg
 clear I5 h6 hg
 have D6:=aJ D5 hs6
 clear D5
 refine ⟨_,rfl,trivial,?_⟩
 simp only [Act.put,PutA,PutZ,PutS]
 refine sq1p (w.heap.size + 2) 4 ?_
 refine am 75 _ _ rfl rfl ((w.heap.size + 2)) 4 77 _ #[.int .i64 x1,.int .i64 x2,.int .i64 x3,.int .i64 x4,u5_0,u5_1,u5_2,u5_3,u5_4,u5_5,u5_6,u5_7,u5_8,u5_9,u5_10,u5_11,.slice none 0 0,.slice none 0 0,.slice none 0 0,.slice none 0 0,.int .i64 0,.int .i64 0,.slice none 0 0,.slice none 0 0,.slice none 0 0,.slice none 0 0,.slice none 0 0,.slice none 0 0] [u5_0,u5_1,u5_2,u5_3,u5_4,u5_5,u5_6,u5_7,u5_8,u5_9,u5_10,u5_11] rfl rfl I6.blk sz75 (by first | assumption | simp [Value.oneCell']) (putAll_mid [.int .i64 x1,.int .i64 x2,.int .i64 x3,.int .i64 x4] [.slice none 0 0,.slice none 0 0,.slice none 0 0,.slice none 0 0,.int .i64 0,.int .i64 0,.slice none 0 0,.slice none 0 0,.slice none 0 0,.slice none 0 0,.slice none 0 0,.slice none 0 0] [.slice none 0 0,.slice none 0 0,.slice none 0 0,.slice none 0 0,.int .i64 0,.int .i64 0,.slice none 0 0,.slice none 0 0,.slice none 0 0,.slice none 0 0,.slice none 0 0,.slice none 0 0] [u5_0,u5_1,u5_2,u5_3,u5_4,u5_5,u5_6,u5_7,u5_8,u5_9,u5_10,u5_11] rfl) (by simp) ?_
 intro w' hb hg
 replace HZ:=(hg.block _ (ac HZ) (fun q => by injection q with q; omega)).trans HZ
 replace F5:=Stb.grow (stb_pc n) hg (I6.ga) F5
 replace F6:=Stb.grow (stb_pc n) hg (I6.ga) F6
 replace I6:=I6.store hb hg
 clear hb hg
 refine ⟨trivial,?_⟩
 refine sq1p (w.heap.size + 2) 16 ?_
 refine am 75 _ _ rfl rfl ((w.heap.size + 2)) 16 77 _ #[.int .i64 x1,.int .i64 x2,.int .i64 x3,.int .i64 x4,u5_0,u5_1,u5_2,u5_3,u5_4,u5_5,u5_6,u5_7,u5_8,u5_9,u5_10,u5_11,u6_0,u6_1,u6_2,u6_3,u6_4,u6_5,u6_6,u6_7,u6_8,u6_9,u6_10,u6_11] [u6_0,u6_1,u6_2,u6_3,u6_4,u6_5,u6_6,u6_7,u6_8,u6_9,u6_10,u6_11] rfl rfl I6.blk sz75 (by first | assumption | simp [Value.oneCell']) (putAll_mid [.int .i64 x1,.int .i64 x2,.int .i64 x3,.int .i64 x4,u5_0,u5_1,u5_2,u5_3,u5_4,u5_5,u5_6,u5_7,u5_8,u5_9,u5_10,u5_11] [.slice none 0 0,.slice none 0 0,.slice none 0 0,.slice none 0 0,.int .i64 0,.int .i64 0,.slice none 0 0,.slice none 0 0,.slice none 0 0,.slice none 0 0,.slice none 0 0,.slice none 0 0] [] [u6_0,u6_1,u6_2,u6_3,u6_4,u6_5,u6_6,u6_7,u6_8,u6_9,u6_10,u6_11] rfl) (by simp) ?_
 intro w' hb hg
 replace HZ:=(hg.block _ (ac HZ) (fun q => by injection q with q; omega)).trans HZ
 replace F5:=Stb.grow (stb_pc n) hg (I6.ga) F5
 replace F6:=Stb.grow (stb_pc n) hg (I6.ga) F6
 replace I6:=I6.store hb hg
 clear hb hg
 refine ⟨trivial,?_⟩
 refine ae ?_
 have FR:spP n _ (Since (w.heap.size + 3) _) [.int .i64 x1,.int .i64 x2,.int .i64 x3,.int .i64 x4,u5_0,u5_1,u5_2,u5_3,u5_4,u5_5,u5_6,u5_7,u5_8,u5_9,u5_10,u5_11,u6_0,u6_1,u6_2,u6_3,u6_4,u6_5,u6_6,u6_7,u6_8,u6_9,u6_10,u6_11] (x1,x2,x3,x4,x5,x6):=⟨[u5_0,u5_1,u5_2,u5_3,u5_4,u5_5,u5_6,u5_7,u5_8,u5_9,u5_10,u5_11],[u6_0,u6_1,u6_2,u6_3,u6_4,u6_5,u6_6,u6_7,u6_8,u6_9,u6_10,u6_11],rfl,rfl,⟨hx1,hx2,hx3,hx4⟩,F5,F6⟩
 clear F5 F6
 have hone:=(one_sp n) _ _ _ _ FR
 have hsA:Res (spR n) s k0 e0 (x1,x2,x3,x4,x5,x6) k6 e6:=(hs1.seq (hs2.seq (hs3.seq (hs4.seq (hs5.seq hs6)))))
 rw [hk0,he0] at hsA
 obtain ⟨hc1,hc2⟩:=dec_code hsA
 clear hs1 hs2 hs3 hs4 hs5 hs6 hsA
 go_upto_region 5 with fail
 refine af (by rfl) ?_
 simp only [List.map]
 refine sq1p (w.heap.size + 1) 0 ?_
 refine ad 66 #[.pointer (some ⟨w.heap.size + 1,0,none⟩)] (by go_simp) ?_
 refine Calls.mono (end66 (w.heap.size + 1) k6 s e6 _ I6.rdr) ?_
 rintro e w' ⟨rfl,hg⟩
 rw [hc1]
 clear hc1
 replace HZ:=(hg.block _ (ac HZ) (fun q => by injection q with q; omega)).trans HZ
 replace FR:=Stb.grow (stb_sp n) hg (by omega) FR
 have hb:=(hg.block _ (ac I6.blk) (fun q => by injection q with q; omega)).trans I6.blk
 have HG:=qH (az I6.grown hg)
 clear I6 hg hk0 he0
 obtain ⟨E,hE⟩:=gX (decErr (spR n) (al s))
 rw [<- hE] at hc2 ⊢
 refine ⟨_,rfl,trivial,?_⟩
 simp only [Act.put,PutA,PutZ,PutS]
 refine sq1i E ?_
 refine ae ?_
 have hc3:=qH hc2
 have HE:=qH hE
 clear hc2 hE
 rcases Int.decEq E 0 with he | he
 ·have d0:(E != 0) = true:=by simpa using he
  clear FR hb
  go_upto_region 7 with fail
  refine af (by rfl) ?_
  simp only [List.map]
  refine sq1 (.agg #[.int .i64 0,.int .i64 0,.int .i64 0,.int .i64 0,.slice none 0 0,.slice none 0 0,.slice none 0 0,.slice none 0 0,.int .i64 0,.int .i64 0,.slice none 0 0,.slice none 0 0,.slice none 0 0,.slice none 0 0,.slice none 0 0,.slice none 0 0,.slice none 0 0,.slice none 0 0,.slice none 0 0,.slice none 0 0,.int .i64 0,.int .i64 0,.slice none 0 0,.slice none 0 0,.slice none 0 0,.slice none 0 0,.slice none 0 0,.slice none 0 0]) ?_
  refine sq1i E ?_
  refine aI 77 _ _ rfl rfl (w.heap.size) 77 _ [.int .i64 0,.int .i64 0,.int .i64 0,.int .i64 0,.slice none 0 0,.slice none 0 0,.slice none 0 0,.slice none 0 0,.int .i64 0,.int .i64 0,.slice none 0 0,.slice none 0 0,.slice none 0 0,.slice none 0 0,.slice none 0 0,.slice none 0 0,.slice none 0 0,.slice none 0 0,.slice none 0 0,.slice none 0 0,.int .i64 0,.int .i64 0,.slice none 0 0,.slice none 0 0,.slice none 0 0,.slice none 0 0,.slice none 0 0,.slice none 0 0] rfl rfl HZ size77 ((one_sp n) w (Since 0 w) _ _ (sp0_rep n _ _)) rfl ?_
  intro w2 hb2 hg2
  refine ⟨trivial,?_⟩
  refine sq1i E ?_
  refine ae ?_
  have HB:=qH (show Below w.heap.size w w2 from ⟨hg2.os.trans HG.out.os,hg2.tape.trans HG.out.tape,hg2.output.trans HG.out.output,Nat.le_trans HG.out.size hg2.size,fun i hi => (hg2.block i (Nat.lt_of_lt_of_le hi HG.out.size) (fun q => by injection q with q; omega)).trans (HG.out.block i hi (fun q => by injection q with q; omega))⟩)
  clear hg2 HG HZ
  go_wp2_with fail
  refine bodyPost_ret (v:=.tuple #[.agg #[.int .i64 0,.int .i64 0,.int .i64 0,.int .i64 0,.slice none 0 0,.slice none 0 0,.slice none 0 0,.slice none 0 0,.int .i64 0,.int .i64 0,.slice none 0 0,.slice none 0 0,.slice none 0 0,.slice none 0 0,.slice none 0 0,.slice none 0 0,.slice none 0 0,.slice none 0 0,.slice none 0 0,.slice none 0 0,.int .i64 0,.int .i64 0,.slice none 0 0,.slice none 0 0,.slice none 0 0,.slice none 0 0,.slice none 0 0,.slice none 0 0],.int .i64 E]) (aY rfl _ _ (w.heap.size) 77 #[.int .i64 0,.int .i64 0,.int .i64 0,.int .i64 0,.slice none 0 0,.slice none 0 0,.slice none 0 0,.slice none 0 0,.int .i64 0,.int .i64 0,.slice none 0 0,.slice none 0 0,.slice none 0 0,.slice none 0 0,.slice none 0 0,.slice none 0 0,.slice none 0 0,.slice none 0 0,.slice none 0 0,.slice none 0 0,.int .i64 0,.int .i64 0,.slice none 0 0,.slice none 0 0,.slice none 0 0,.slice none 0 0,.slice none 0 0,.slice none 0 0] (0,0) _ _ rfl rfl hb2 Tryz.underlying77 rfl size77) rfl ?_
  refine ⟨HB.out,[.int .i64 0,.int .i64 0,.int .i64 0,.int .i64 0,.slice none 0 0,.slice none 0 0,.slice none 0 0,.slice none 0 0,.int .i64 0,.int .i64 0,.slice none 0 0,.slice none 0 0,.slice none 0 0,.slice none 0 0,.slice none 0 0,.slice none 0 0,.slice none 0 0,.slice none 0 0,.slice none 0 0,.slice none 0 0,.int .i64 0,.int .i64 0,.slice none 0 0,.slice none 0 0,.slice none 0 0,.slice none 0 0,.slice none 0 0,.slice none 0 0],sp0 n,by rw [<- HE.out],(sp0_rep n _ _),(one_sp n) w2 (Since 0 w2) _ _ (sp0_rep n _ _),fun _ => rfl,fun q => absurd (HE.out.trans q) he⟩
 subst he
 replace hc3:=qH (hc3.out rfl)
 go_upto_region 8 with fail
 refine af (by rfl) ?_
 simp only [List.map]
 refine aH 77 _ rfl (w.heap.size + 2) 77 #[.int .i64 x1,.int .i64 x2,.int .i64 x3,.int .i64 x4,u5_0,u5_1,u5_2,u5_3,u5_4,u5_5,u5_6,u5_7,u5_8,u5_9,u5_10,u5_11,u6_0,u6_1,u6_2,u6_3,u6_4,u6_5,u6_6,u6_7,u6_8,u6_9,u6_10,u6_11] _ rfl hb Tryz.underlying77 rfl size77 trivial ?_
 simp only [Act.put,PutA,PutZ,PutS]
 refine aI 77 _ _ rfl rfl (w.heap.size) 77 _ [.int .i64 x1,.int .i64 x2,.int .i64 x3,.int .i64 x4,u5_0,u5_1,u5_2,u5_3,u5_4,u5_5,u5_6,u5_7,u5_8,u5_9,u5_10,u5_11,u6_0,u6_1,u6_2,u6_3,u6_4,u6_5,u6_6,u6_7,u6_8,u6_9,u6_10,u6_11] rfl rfl HZ size77 hone rfl ?_
 intro w2 hb2 hg2
 refine ⟨trivial,?_⟩
 refine sq1i 0 ?_
 refine ae ?_
 have HB:=qH (show Below w.heap.size w w2 from ⟨hg2.os.trans HG.out.os,hg2.tape.trans HG.out.tape,hg2.output.trans HG.out.output,Nat.le_trans HG.out.size hg2.size,fun i hi => (hg2.block i (Nat.lt_of_lt_of_le hi HG.out.size) (fun q => by injection q with q; omega)).trans (HG.out.block i hi (fun q => by injection q with q; omega))⟩)
 have hR2:=qH (Stb.since (a0:=w.heap.size) (stb_sp n) (Stb.grow (stb_sp n) hg2 (by omega) FR) (by omega))
 clear hg2 HG HZ FR hb
 go_wp2_with fail
 refine bodyPost_ret (v:=.tuple #[.agg #[.int .i64 x1,.int .i64 x2,.int .i64 x3,.int .i64 x4,u5_0,u5_1,u5_2,u5_3,u5_4,u5_5,u5_6,u5_7,u5_8,u5_9,u5_10,u5_11,u6_0,u6_1,u6_2,u6_3,u6_4,u6_5,u6_6,u6_7,u6_8,u6_9,u6_10,u6_11],.int .i64 0]) (aY rfl _ _ (w.heap.size) 77 #[.int .i64 x1,.int .i64 x2,.int .i64 x3,.int .i64 x4,u5_0,u5_1,u5_2,u5_3,u5_4,u5_5,u5_6,u5_7,u5_8,u5_9,u5_10,u5_11,u6_0,u6_1,u6_2,u6_3,u6_4,u6_5,u6_6,u6_7,u6_8,u6_9,u6_10,u6_11] (0,0) _ _ rfl rfl hb2 Tryz.underlying77 rfl size77) rfl ?_
 refine ⟨HB.out,[.int .i64 x1,.int .i64 x2,.int .i64 x3,.int .i64 x4,u5_0,u5_1,u5_2,u5_3,u5_4,u5_5,u5_6,u5_7,u5_8,u5_9,u5_10,u5_11,u6_0,u6_1,u6_2,u6_3,u6_4,u6_5,u6_6,u6_7,u6_8,u6_9,u6_10,u6_11],(x1,x2,x3,x4,x5,x6),by rw [<- HE.out],hR2.out,hone,fun q => absurd HE.out.symm q,fun _ => hc3.out⟩
end Go.Proofs.YtmhhcfceikcfbaaGreat
namespace Go.Proofs.YtmhhcfceikcfbaaGreat
open Go.RowKit
set_option maxRecDepth 100000
set_option maxHeartbeats 4000000
theorem byt_sp (n:Nat):Byt (spE n):=byt_N.seq (byt_N.seq (byt_N.seq (byt_N.seq ((byt_pc n).seq (byt_pc n)))))
theorem sp_ne {n:Nat} (x:Sp n):spE n x≠[]:=by
 intro h
 have h2:=congrArg List.length h
 have h3:=List.length_pos_iff.2 (bI x.1)
 simp only [spE,seqE,List.length_append,List.length_nil] at h2
 omega
theorem pc_len2 {n:Nat} {w:World} {G:Nat→Prop} {vs:List Value} {x:Pc n} (h:pcP n w G vs x):vs.length = 12:=by
 obtain ⟨v0,v1,v2,h0,h1,h2,h3,h4,s0,s1,s2,s3,rfl,_⟩:=h
 rfl
end Go.Proofs.YtmhhcfceikcfbaaGreat
