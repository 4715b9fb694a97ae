/- Walks: readers of heads, styles, lists, settings. -/
import Derived.Test.YtmhhcfceikcfbaaGreatDeR9
namespace Go.Proofs.YtmhhcfceikcfbaaGreat
open Go.RowKit
set_option maxRecDepth 100000
set_option maxHeartbeats 4000000
theorem rd91 (r k0:Nat) (s:ByteArray) (e0:Int) (w:World) (h:Rdr 99 r s k0 e0 w) (hk0:k0≤s.size) (hs:s.size≤549755813888) :
  Calls Tryz.prog 91 #[.pointer (some ⟨r,0,none⟩)] w (RecC hdP hdR 5 99 r s k0 e0 w):=by
 have hrl:=ae h
 have I0:Inv 40 99 r w.heap.size (w.heap.size + 1) s w (w.heap.size + 2) k0 e0 #[.slice none 0 0,.int .i64 0,.int .i64 0,.slice none 0 0,.slice none 0 0] ((w.alloc (.cells #[.pointer (some ⟨r,0,none⟩)] 97)).alloc (.cells #[.slice none 0 0,.int .i64 0,.int .i64 0,.slice none 0 0,.slice none 0 0] 40)):=⟨(h.alloc _).alloc _,hk0,ah _ _ (by simp),(World.cell?_of_block (Below.heap_alloc _ _ _ (by simp))).trans (aa (heap_alloc_new w _) 0),ap (ap (av w (some r)) _) _,by omega,by omega,by omega,by omega,by omega,by omega,by simp⟩
 clear h
 go_enter Tryz.func91,Tryz.ntmps91
 go_upto_region 1 with fail
 refine ac (by rfl) ?_
 simp only [List.map]
 have hcap:=I0.cap
 refine a7 (.pointer (some ⟨r,0,none⟩)) (by go_simp) trivial ?_
 clear hcap
 simp only [Act.put,PutA,PutZ,PutS]
 refine af 157 #[.pointer (some ⟨r,0,none⟩)] (by go_simp) ?_
 refine Calls.mono (rd157 r k0 s e0 _ I0.rdr I0.le hs) ?_
 rintro e w1 ⟨v1,x1,k1,e1,rfl,hR1,h1,hg,hs1⟩
 obtain ⟨A1,c1,hv1,_,_⟩:=hR1.shape
 subst hv1
 have F1:=Slv.since am hR1 I0.aw
 clear hR1
 have I1:=I0.call h1 hs1.1 hg
 clear I0 h1 hg
 refine ⟨_,rfl,trivial,?_⟩
 simp only [Act.put,PutA,PutZ,PutS]
 refine sq1p (w.heap.size + 1) 0 ?_
 refine aj 34 _ _ rfl rfl (w.heap.size + 1) 0 40 _ #[.slice A1 x1.length c1,.int .i64 0,.int .i64 0,.slice none 0 0,.slice none 0 0] [.slice A1 x1.length c1] rfl rfl I1.blk sz34 (one1 rfl) rfl (by simp) ?_
 intro w' hb hg
 replace F1:=Slv.grow am F1 hg (I1.ga)
 replace I1:=I1.store hb hg
 clear hb hg
 refine ⟨trivial,?_⟩
 refine ad ?_
 go_upto_region 2 with fail
 refine ao (S:=fun w' => w'.cell? ⟨w.heap.size,0,none⟩ = some (.pointer (some ⟨r,0,none⟩))) [(true,0),(true,2),(false,1),(true,4),(true,5),(false,3),(false,6),(true,7),(true,8),(false,9)] (by kernel_rfl) (by kernel_rfl) I1.drew.cap ?_
 replace I1:=I1.drew
 replace F1:=Slv.drew am F1
 simp only [aO,List.getElem?_cons_succ,List.getElem?_cons_zero]
 refine sq2p r 0 ?_
 refine sq2p r 0 ?_
 refine af 43 #[.pointer (some ⟨r,0,none⟩)] (by go_simp) ?_
 refine Calls.mono (az r k1 s e1 _ I1.rdr I1.le (by omega)) ?_
 rintro e w2 ⟨x2,k2,e2,rfl,hx2,h2,hg,hs2⟩
 replace F1:=Slv.grow am F1 hg (I1.ra)
 have I2:=I1.call h2 hs2.1 hg
 clear I1 h2 hg
 refine ⟨_,rfl,I2.cap,?_⟩
 simp only [Act.put,PutA,PutZ,PutS]
 refine sq2p (w.heap.size + 1) 1 ?_
 refine sq2p (w.heap.size + 1) 1 ?_
 refine af 43 #[.pointer (some ⟨r,0,none⟩)] (by go_simp) ?_
 refine Calls.mono (az r k2 s e2 _ I2.rdr I2.le (by omega)) ?_
 rintro e w3 ⟨x3,k3,e3,rfl,hx3,h3,hg,hs3⟩
 replace F1:=Slv.grow am F1 hg (I2.ra)
 have I3:=I2.call h3 hs3.1 hg
 clear I2 h3 hg
 refine ⟨_,rfl,I3.cap,?_⟩
 simp only [Act.put,PutA,PutZ,PutS]
 refine aj 3 _ _ rfl rfl (w.heap.size + 1) 1 40 _ #[.slice A1 x1.length c1,.int .i64 x2,.int .i64 0,.slice none 0 0,.slice none 0 0] [.int .i64 x2] rfl rfl I3.blk sz3 (one1 rfl) rfl (by simp) ?_
 intro w' hb hg
 replace F1:=Slv.grow am F1 hg (I3.ga)
 replace I3:=I3.store hb hg
 clear hb hg
 refine ⟨I3.cap,?_⟩
 refine sq2p (w.heap.size + 1) 1 ?_
 refine sq2p (w.heap.size + 1) 2 ?_
 refine aj 3 _ _ rfl rfl (w.heap.size + 1) 2 40 _ #[.slice A1 x1.length c1,.int .i64 x2,.int .i64 x3,.slice none 0 0,.slice none 0 0] [.int .i64 x3] rfl rfl I3.blk sz3 (one1 rfl) rfl (by simp) ?_
 intro w' hb hg
 replace F1:=Slv.grow am F1 hg (I3.ga)
 replace I3:=I3.store hb hg
 clear hb hg
 refine ⟨I3.cap,?_⟩
 refine ad ?_
 go_upto_region 3 with fail
 refine ac (by rfl) ?_
 simp only [List.map]
 have hcap:=I3.cap
 refine a7 (.pointer (some ⟨r,0,none⟩)) (by go_simp) trivial ?_
 clear hcap
 simp only [Act.put,PutA,PutZ,PutS]
 refine sq1 (.func (.func 168) #[] #[.pointer (some ⟨w.heap.size,0,none⟩)]) ?_
 refine af 167 #[.pointer (some ⟨r,0,none⟩),.func (.func 168) #[] #[.pointer (some ⟨w.heap.size,0,none⟩)]] (by go_simp) ?_
 refine Calls.mono (get167 twoP twoR am r w.heap.size k3 s e3 _ I3.rdr I3.le hs I3.cap I3.cr (fun _ => clos168 r _ s _ _ hs I3.cr)) ?_
 rintro e w4 ⟨v4,x4,k4,e4,rfl,hR4,h4,hg,hs4⟩
 obtain ⟨A4,c4,hv4,_,_⟩:=hR4.shape
 subst hv4
 replace F1:=Slv.grow am F1 hg (I3.ra)
 have F4:=Slv.since am hR4 I3.aw
 clear hR4
 have I4:=I3.call h4 hs4.1 hg
 clear I3 h4 hg
 refine ⟨_,rfl,trivial,?_⟩
 simp only [Act.put,PutA,PutZ,PutS]
 refine sq1p (w.heap.size + 1) 1 ?_
 refine sq1p (w.heap.size + 1) 3 ?_
 refine aj 35 _ _ rfl rfl (w.heap.size + 1) 3 40 _ #[.slice A1 x1.length c1,.int .i64 x2,.int .i64 x3,.slice A4 x4.length c4,.slice none 0 0] [.slice A4 x4.length c4] rfl rfl I4.blk sz35 (one1 rfl) rfl (by simp) ?_
 intro w' hb hg
 replace F1:=Slv.grow am F1 hg (I4.ga)
 replace F4:=Slv.grow am F4 hg (I4.ga)
 replace I4:=I4.store hb hg
 clear hb hg
 refine ⟨trivial,?_⟩
 refine ad ?_
 go_upto_region 4 with fail
 refine ac (by rfl) ?_
 simp only [List.map]
 have hcap:=I4.cap
 refine a7 (.pointer (some ⟨r,0,none⟩)) (by go_simp) trivial ?_
 clear hcap
 simp only [Act.put,PutA,PutZ,PutS]
 refine sq1 (.func (.func 170) #[] #[.pointer (some ⟨w.heap.size,0,none⟩)]) ?_
 refine af 169 #[.pointer (some ⟨r,0,none⟩),.func (.func 170) #[] #[.pointer (some ⟨w.heap.size,0,none⟩)]] (by go_simp) ?_
 refine Calls.mono (get169 layP layR bD r w.heap.size k4 s e4 _ I4.rdr I4.le hs I4.cap I4.cr (fun _ => clos170 r _ s _ _ hs I4.cr)) ?_
 rintro e w5 ⟨v5,x5,k5,e5,rfl,hR5,h5,hg,hs5⟩
 obtain ⟨A5,c5,hv5,_,_⟩:=hR5.shape
 subst hv5
 replace F1:=Slv.grow am F1 hg (I4.ra)
 replace F4:=Slv.grow am F4 hg (I4.ra)
 have F5:=Slv.since bD hR5 I4.aw
 clear hR5
 have I5:=I4.call h5 hs5.1 hg
 clear I4 h5 hg
 refine ⟨_,rfl,trivial,?_⟩
 simp only [Act.put,PutA,PutZ,PutS]
 refine sq1p (w.heap.size + 1) 1 ?_
 refine sq1p (w.heap.size + 1) 4 ?_
 refine aj 36 _ _ rfl rfl (w.heap.size + 1) 4 40 _ #[.slice A1 x1.length c1,.int .i64 x2,.int .i64 x3,.slice A4 x4.length c4,.slice A5 x5.length c5] [.slice A5 x5.length c5] rfl rfl I5.blk sz36 (one1 rfl) rfl (by simp) ?_
 intro w' hb hg
 replace F1:=Slv.grow am F1 hg (I5.ga)
 replace F4:=Slv.grow am F4 hg (I5.ga)
 replace F5:=Slv.grow bD F5 hg (I5.ga)
 replace I5:=I5.store hb hg
 clear hb hg
 refine ⟨trivial,?_⟩
 refine ad ?_
 have FR:hdP _ (aB (w.heap.size + 2) _) [.slice A1 x1.length c1,.int .i64 x2,.int .i64 x3,.slice A4 x4.length c4,.slice A5 x5.length c5] (x1,x2,x3,x4,x5):=⟨_,_,_,rfl,hx2,hx3,F1,F4,F5⟩
 clear F1 F4 F5
 have hone:=one_hd _ _ _ _ FR
 go_upto_region 5 with fail
 refine ac (by rfl) ?_
 simp only [List.map]
 refine ar 40 _ rfl (w.heap.size + 1) 40 #[.slice A1 x1.length c1,.int .i64 x2,.int .i64 x3,.slice A4 x4.length c4,.slice A5 x5.length c5] _ rfl I5.blk Tryz.underlying40 rfl size40 trivial ?_
 simp only [Act.put,PutA,PutZ,PutS]
 refine as_ 40 _ _ rfl rfl (w.heap.size + 1) 40 _ [.slice A1 x1.length c1,.int .i64 x2,.int .i64 x3,.slice A4 x4.length c4,.slice A5 x5.length c5] rfl rfl I5.blk size40 hone rfl ?_
 intro w' hb hg
 replace FR:=Stb.grow ay hg (I5.ga) FR
 replace I5:=I5.store hb hg
 clear hb hg
 refine ⟨trivial,?_⟩
 refine ad ?_
 go_wp2_with fail
 refine bodyPost_ret (v:=.agg #[.slice A1 x1.length c1,.int .i64 x2,.int .i64 x3,.slice A4 x4.length c4,.slice A5 x5.length c5]) (results_cell_row rfl _ _ (w.heap.size + 1) 40 #[.slice A1 x1.length c1,.int .i64 x2,.int .i64 x3,.slice A4 x4.length c4,.slice A5 x5.length c5] (0,0) _ rfl I5.blk Tryz.underlying40 rfl size40) rfl ?_
 exact ⟨[.slice A1 x1.length c1,.int .i64 x2,.int .i64 x3,.slice A4 x4.length c4,.slice A5 x5.length c5],(x1,x2,x3,x4,x5),k5,e5,rfl,rfl,hone,Stb.since ay FR (by omega),I5.rdr,I5.grown,(hs1.seq (hs2.seq (hs3.seq (hs4.seq hs5))))⟩
theorem clos156 (r c:Nat) (s:ByteArray) (kmin B:Nat) (hs:s.size≤549755813888) (hcr:c≠r):ClosC styP styR 6 156 99 r c s kmin B:=by
 intro w k0 h hk0 hkm hc _
 have hcl:=World.block_lt_of_cell? _ _ hc
 have hrl:=ae h
 have hcg:c≠w.heap.size:=Nat.ne_of_lt hcl
 have I0:Inv 107 99 r c w.heap.size s w (w.heap.size + 1) k0 0 #[.int .i64 0,.int .i64 0,.string ⟨#[]⟩,.int .i64 0,.int .i64 0,.slice none 0 0] (w.alloc (.cells #[.int .i64 0,.int .i64 0,.string ⟨#[]⟩,.int .i64 0,.int .i64 0,.slice none 0 0] 107)):=⟨h.alloc _,hk0,heap_alloc_new w _,(World.cell?_of_block (Below.heap_alloc _ _ _ hcl)).trans hc,ap (av w (some r)) _,by omega,hcr,hcg,Nat.le_refl _,by omega,by omega,by simp⟩
 clear h hc
 go_enter Tryz.func156,Tryz.ntmps156
 go_upto_region 1 with fail
 refine ao (S:=fun w' => w'.cell? ⟨c,0,none⟩ = some (.pointer (some ⟨r,0,none⟩))) [(true,0),(true,2),(true,4),(true,6),(true,8),(true,10),(false,1),(true,12),(false,3),(false,5),(false,7),(false,9),(false,11),(false,13),(true,14),(false,15),(true,16),(false,17),(true,18),(false,19),(true,20),(false,21),(true,22),(false,23)] (by kernel_rfl) (by kernel_rfl) I0.drew.cap ?_
 replace I0:=I0.drew
 simp only [aO,List.getElem?_cons_succ,List.getElem?_cons_zero]
 refine sq2p r 0 ?_
 refine sq2p r 0 ?_
 refine sq2p r 0 ?_
 refine sq2p r 0 ?_
 refine sq2p r 0 ?_
 refine sq2p r 0 ?_
 refine af 43 #[.pointer (some ⟨r,0,none⟩)] (by go_simp) ?_
 refine Calls.mono (az r k0 s 0 _ I0.rdr I0.le (by omega)) ?_
 rintro e w1 ⟨x1,k1,e1,rfl,hx1,h1,hg,hs1⟩
 have I1:=I0.call h1 hs1.1 hg
 clear I0 h1 hg
 refine ⟨_,rfl,I1.cap,?_⟩
 simp only [Act.put,PutA,PutZ,PutS]
 refine sq2p (w.heap.size) 0 ?_
 refine af 43 #[.pointer (some ⟨r,0,none⟩)] (by go_simp) ?_
 refine Calls.mono (az r k1 s e1 _ I1.rdr I1.le (by omega)) ?_
 rintro e w2 ⟨x2,k2,e2,rfl,hx2,h2,hg,hs2⟩
 have I2:=I1.call h2 hs2.1 hg
 clear I1 h2 hg
 refine ⟨_,rfl,I2.cap,?_⟩
 simp only [Act.put,PutA,PutZ,PutS]
 refine af 142 #[.pointer (some ⟨r,0,none⟩)] (by go_simp) ?_
 refine Calls.mono (text142 r k2 s e2 _ I2.rdr I2.le (by omega)) ?_
 rintro e w3 ⟨x3,k3,e3,rfl,hx3,h3,hg,hs3⟩
 have I3:=I2.call h3 hs3.1 hg
 clear I2 h3 hg
 refine ⟨_,rfl,I3.cap,?_⟩
 simp only [Act.put,PutA,PutZ,PutS]
 refine af 43 #[.pointer (some ⟨r,0,none⟩)] (by go_simp) ?_
 refine Calls.mono (az r k3 s e3 _ I3.rdr I3.le (by omega)) ?_
 rintro e w4 ⟨x4,k4,e4,rfl,hx4,h4,hg,hs4⟩
 have I4:=I3.call h4 hs4.1 hg
 clear I3 h4 hg
 refine ⟨_,rfl,I4.cap,?_⟩
 simp only [Act.put,PutA,PutZ,PutS]
 refine af 43 #[.pointer (some ⟨r,0,none⟩)] (by go_simp) ?_
 refine Calls.mono (az r k4 s e4 _ I4.rdr I4.le (by omega)) ?_
 rintro e w5 ⟨x5,k5,e5,rfl,hx5,h5,hg,hs5⟩
 have I5:=I4.call h5 hs5.1 hg
 clear I4 h5 hg
 refine ⟨_,rfl,I5.cap,?_⟩
 simp only [Act.put,PutA,PutZ,PutS]
 refine af 157 #[.pointer (some ⟨r,0,none⟩)] (by go_simp) ?_
 refine Calls.mono (rd157 r k5 s e5 _ I5.rdr I5.le hs) ?_
 rintro e w6 ⟨v6,x6,k6,e6,rfl,hR6,h6,hg,hs6⟩
 obtain ⟨A6,c6,hv6,_,_⟩:=hR6.shape
 subst hv6
 have F6:=Slv.since am hR6 I5.aw
 clear hR6
 have I6:=I5.call h6 hs6.1 hg
 clear I5 h6 hg
 refine ⟨_,rfl,I6.cap,?_⟩
 simp only [Act.put,PutA,PutZ,PutS]
 refine aj 3 _ _ rfl rfl (w.heap.size) 0 107 _ #[.int .i64 x1,.int .i64 0,.string ⟨#[]⟩,.int .i64 0,.int .i64 0,.slice none 0 0] [.int .i64 x1] rfl rfl I6.blk sz3 (one1 rfl) rfl (by simp) ?_
 intro w' hb hg
 replace F6:=Slv.grow am F6 hg (I6.ga)
 replace I6:=I6.store hb hg
 clear hb hg
 refine ⟨I6.cap,?_⟩
 refine sq2p (w.heap.size) 1 ?_
 refine aj 3 _ _ rfl rfl (w.heap.size) 1 107 _ #[.int .i64 x1,.int .i64 x2,.string ⟨#[]⟩,.int .i64 0,.int .i64 0,.slice none 0 0] [.int .i64 x2] rfl rfl I6.blk sz3 (one1 rfl) rfl (by simp) ?_
 intro w' hb hg
 replace F6:=Slv.grow am F6 hg (I6.ga)
 replace I6:=I6.store hb hg
 clear hb hg
 refine ⟨I6.cap,?_⟩
 refine sq2p (w.heap.size) 2 ?_
 refine aj 9 _ _ rfl rfl (w.heap.size) 2 107 _ #[.int .i64 x1,.int .i64 x2,.string x3,.int .i64 0,.int .i64 0,.slice none 0 0] [.string x3] rfl rfl I6.blk sz9 (one1 rfl) rfl (by simp) ?_
 intro w' hb hg
 replace F6:=Slv.grow am F6 hg (I6.ga)
 replace I6:=I6.store hb hg
 clear hb hg
 refine ⟨I6.cap,?_⟩
 refine sq2p (w.heap.size) 3 ?_
 refine aj 3 _ _ rfl rfl (w.heap.size) 3 107 _ #[.int .i64 x1,.int .i64 x2,.string x3,.int .i64 x4,.int .i64 0,.slice none 0 0] [.int .i64 x4] rfl rfl I6.blk sz3 (one1 rfl) rfl (by simp) ?_
 intro w' hb hg
 replace F6:=Slv.grow am F6 hg (I6.ga)
 replace I6:=I6.store hb hg
 clear hb hg
 refine ⟨I6.cap,?_⟩
 refine sq2p (w.heap.size) 4 ?_
 refine aj 3 _ _ rfl rfl (w.heap.size) 4 107 _ #[.int .i64 x1,.int .i64 x2,.string x3,.int .i64 x4,.int .i64 x5,.slice none 0 0] [.int .i64 x5] rfl rfl I6.blk sz3 (one1 rfl) rfl (by simp) ?_
 intro w' hb hg
 replace F6:=Slv.grow am F6 hg (I6.ga)
 replace I6:=I6.store hb hg
 clear hb hg
 refine ⟨I6.cap,?_⟩
 refine sq2p (w.heap.size) 5 ?_
 refine aj 34 _ _ rfl rfl (w.heap.size) 5 107 _ #[.int .i64 x1,.int .i64 x2,.string x3,.int .i64 x4,.int .i64 x5,.slice A6 x6.length c6] [.slice A6 x6.length c6] rfl rfl I6.blk sz34 (one1 rfl) rfl (by simp) ?_
 intro w' hb hg
 replace F6:=Slv.grow am F6 hg (I6.ga)
 replace I6:=I6.store hb hg
 clear hb hg
 refine ⟨I6.cap,?_⟩
 refine ad ?_
 have FR:styP _ (aB (w.heap.size + 1) _) [.int .i64 x1,.int .i64 x2,.string x3,.int .i64 x4,.int .i64 x5,.slice A6 x6.length c6] (x1,x2,x3,x4,x5,x6):=⟨_,rfl,⟨hx1,hx2,Nat.le_trans hx3 (by omega),hx4,hx5⟩,F6⟩
 clear F6
 have hone:=one_sty _ _ _ _ FR
 go_upto_region 2 with fail
 refine ac (by rfl) ?_
 simp only [List.map]
 refine ar 107 _ rfl (w.heap.size) 107 #[.int .i64 x1,.int .i64 x2,.string x3,.int .i64 x4,.int .i64 x5,.slice A6 x6.length c6] _ rfl I6.blk Tryz.underlying107 rfl size107 trivial ?_
 simp only [Act.put,PutA,PutZ,PutS]
 refine as_ 107 _ _ rfl rfl (w.heap.size) 107 _ [.int .i64 x1,.int .i64 x2,.string x3,.int .i64 x4,.int .i64 x5,.slice A6 x6.length c6] rfl rfl I6.blk size107 hone rfl ?_
 intro w' hb hg
 replace FR:=Stb.grow aF hg (I6.ga) FR
 replace I6:=I6.store hb hg
 clear hb hg
 refine ⟨trivial,?_⟩
 refine ad ?_
 go_wp2_with fail
 refine bodyPost_ret (v:=.agg #[.int .i64 x1,.int .i64 x2,.string x3,.int .i64 x4,.int .i64 x5,.slice A6 x6.length c6]) (results_cell_row rfl _ _ (w.heap.size) 107 #[.int .i64 x1,.int .i64 x2,.string x3,.int .i64 x4,.int .i64 x5,.slice A6 x6.length c6] (0,0) _ rfl I6.blk Tryz.underlying107 rfl size107) rfl ?_
 exact ⟨[.int .i64 x1,.int .i64 x2,.string x3,.int .i64 x4,.int .i64 x5,.slice A6 x6.length c6],(x1,x2,x3,x4,x5,x6),k6,e6,rfl,rfl,hone,Stb.since aF FR (by omega),I6.rdr,I6.grown,(hs1.seq (hs2.seq (hs3.seq (hs4.seq (hs5.seq hs6)))))⟩
theorem clos159 (r c:Nat) (s:ByteArray) (kmin B:Nat) (hs:s.size≤549755813888) (hcr:c≠r):ClosC lstP lstR 2 159 99 r c s kmin B:=by
 intro w k0 h hk0 hkm hc _
 have hcl:=World.block_lt_of_cell? _ _ hc
 have hrl:=ae h
 have hcg:c≠w.heap.size:=Nat.ne_of_lt hcl
 have I0:Inv 110 99 r c w.heap.size s w (w.heap.size + 1) k0 0 #[.int .i64 0,.slice none 0 0] (w.alloc (.cells #[.int .i64 0,.slice none 0 0] 110)):=⟨h.alloc _,hk0,heap_alloc_new w _,(World.cell?_of_block (Below.heap_alloc _ _ _ hcl)).trans hc,ap (av w (some r)) _,by omega,hcr,hcg,Nat.le_refl _,by omega,by omega,by simp⟩
 clear h hc
 go_enter Tryz.func159,Tryz.ntmps159
 go_upto_region 1 with fail
 refine ac (by rfl) ?_
 simp only [List.map]
 have hcap:=I0.cap
 refine a7 (.pointer (some ⟨r,0,none⟩)) (by go_simp) trivial ?_
 clear hcap
 simp only [Act.put,PutA,PutZ,PutS]
 refine af 43 #[.pointer (some ⟨r,0,none⟩)] (by go_simp) ?_
 refine Calls.mono (az r k0 s 0 _ I0.rdr I0.le (by omega)) ?_
 rintro e w1 ⟨x1,k1,e1,rfl,hx1,h1,hg,hs1⟩
 have I1:=I0.call h1 hs1.1 hg
 clear I0 h1 hg
 refine ⟨_,rfl,trivial,?_⟩
 simp only [Act.put,PutA,PutZ,PutS]
 refine sq1p (w.heap.size) 0 ?_
 refine aj 3 _ _ rfl rfl (w.heap.size) 0 110 _ #[.int .i64 x1,.slice none 0 0] [.int .i64 x1] rfl rfl I1.blk sz3 (one1 rfl) rfl (by simp) ?_
 intro w' hb hg
 replace I1:=I1.store hb hg
 clear hb hg
 refine ⟨trivial,?_⟩
 refine ad ?_
 go_upto_region 2 with fail
 refine ac (by rfl) ?_
 simp only [List.map]
 have hcap:=I1.cap
 refine a7 (.pointer (some ⟨r,0,none⟩)) (by go_simp) trivial ?_
 clear hcap
 simp only [Act.put,PutA,PutZ,PutS]
 refine sq1 (.func (.func 161) #[] #[.pointer (some ⟨c,0,none⟩)]) ?_
 refine af 160 #[.pointer (some ⟨r,0,none⟩),.func (.func 161) #[] #[.pointer (some ⟨c,0,none⟩)]] (by go_simp) ?_
 refine Calls.mono (get160 lvlP lvlR bH r c k1 s e1 _ I1.rdr I1.le hs I1.cap I1.cr (fun _ => clos161 r _ s _ _ hs I1.cr)) ?_
 rintro e w2 ⟨v2,x2,k2,e2,rfl,hR2,h2,hg,hs2⟩
 obtain ⟨A2,c2,hv2,_,_⟩:=hR2.shape
 subst hv2
 have F2:=Slv.since bH hR2 I1.aw
 clear hR2
 have I2:=I1.call h2 hs2.1 hg
 clear I1 h2 hg
 refine ⟨_,rfl,trivial,?_⟩
 simp only [Act.put,PutA,PutZ,PutS]
 refine sq1p (w.heap.size) 1 ?_
 refine aj 108 _ _ rfl rfl (w.heap.size) 1 110 _ #[.int .i64 x1,.slice A2 x2.length c2] [.slice A2 x2.length c2] rfl rfl I2.blk sz108 (one1 rfl) rfl (by simp) ?_
 intro w' hb hg
 replace F2:=Slv.grow bH F2 hg (I2.ga)
 replace I2:=I2.store hb hg
 clear hb hg
 refine ⟨trivial,?_⟩
 refine ad ?_
 have FR:lstP _ (aB (w.heap.size + 1) _) [.int .i64 x1,.slice A2 x2.length c2] (x1,x2):=⟨_,rfl,hx1,F2⟩
 clear F2
 have hone:=one_lst _ _ _ _ FR
 go_upto_region 3 with fail
 refine ac (by rfl) ?_
 simp only [List.map]
 refine ar 110 _ rfl (w.heap.size) 110 #[.int .i64 x1,.slice A2 x2.length c2] _ rfl I2.blk Tryz.underlying110 rfl size110 trivial ?_
 simp only [Act.put,PutA,PutZ,PutS]
 refine as_ 110 _ _ rfl rfl (w.heap.size) 110 _ [.int .i64 x1,.slice A2 x2.length c2] rfl rfl I2.blk size110 hone rfl ?_
 intro w' hb hg
 replace FR:=Stb.grow aL hg (I2.ga) FR
 replace I2:=I2.store hb hg
 clear hb hg
 refine ⟨trivial,?_⟩
 refine ad ?_
 go_wp2_with fail
 refine bodyPost_ret (v:=.agg #[.int .i64 x1,.slice A2 x2.length c2]) (results_cell_row rfl _ _ (w.heap.size) 110 #[.int .i64 x1,.slice A2 x2.length c2] (0,0) _ rfl I2.blk Tryz.underlying110 rfl size110) rfl ?_
 exact ⟨[.int .i64 x1,.slice A2 x2.length c2],(x1,x2),k2,e2,rfl,rfl,hone,Stb.since aL FR (by omega),I2.rdr,I2.grown,(hs1.seq hs2)⟩
theorem one_stg:One stgP:=by
 rintro w G vs x ⟨v0,v1,v2,v3,rfl,h0,h1,h2,h3⟩ u hu
 simp only [List.mem_cons,List.not_mem_nil,or_false] at hu
 rcases hu with rfl | rfl | rfl | rfl
 ·exact h0.one
 ·exact h1.one
 ·exact h2.one
 exact h3.one
theorem rd83 (r k0:Nat) (s:ByteArray) (e0:Int) (w:World) (h:Rdr 99 r s k0 e0 w) (hk0:k0≤s.size) (hs:s.size≤549755813888) :
  Calls Tryz.prog 83 #[.pointer (some ⟨r,0,none⟩)] w (RecC stgP stgR 4 99 r s k0 e0 w):=by
 have hrl:=ae h
 have I0:Inv 47 99 r w.heap.size (w.heap.size + 1) s w (w.heap.size + 2) k0 e0 #[.slice none 0 0,.slice none 0 0,.slice none 0 0,.slice none 0 0] ((w.alloc (.cells #[.pointer (some ⟨r,0,none⟩)] 97)).alloc (.cells #[.slice none 0 0,.slice none 0 0,.slice none 0 0,.slice none 0 0] 47)):=⟨(h.alloc _).alloc _,hk0,ah _ _ (by simp),(World.cell?_of_block (Below.heap_alloc _ _ _ (by simp))).trans (aa (heap_alloc_new w _) 0),ap (ap (av w (some r)) _) _,by omega,by omega,by omega,by omega,by omega,by omega,by simp⟩
 clear h
 go_enter Tryz.func83,Tryz.ntmps83
 go_upto_region 1 with fail
 refine ac (by rfl) ?_
 simp only [List.map]
 have hcap:=I0.cap
 refine a7 (.pointer (some ⟨r,0,none⟩)) (by go_simp) trivial ?_
 clear hcap
 simp only [Act.put,PutA,PutZ,PutS]
 refine sq1 (.func (.func 156) #[] #[.pointer (some ⟨w.heap.size,0,none⟩)]) ?_
 refine af 155 #[.pointer (some ⟨r,0,none⟩),.func (.func 156) #[] #[.pointer (some ⟨w.heap.size,0,none⟩)]] (by go_simp) ?_
 refine Calls.mono (get155 styP styR aF r w.heap.size k0 s e0 _ I0.rdr I0.le hs I0.cap I0.cr (fun _ => clos156 r _ s _ _ hs I0.cr)) ?_
 rintro e w1 ⟨v1,x1,k1,e1,rfl,hR1,h1,hg,hs1⟩
 obtain ⟨A1,c1,hv1,_,_⟩:=hR1.shape
 subst hv1
 have F1:=Slv.since aF hR1 I0.aw
 clear hR1
 have I1:=I0.call h1 hs1.1 hg
 clear I0 h1 hg
 refine ⟨_,rfl,trivial,?_⟩
 simp only [Act.put,PutA,PutZ,PutS]
 refine sq1p (w.heap.size + 1) 0 ?_
 refine aj 42 _ _ rfl rfl (w.heap.size + 1) 0 47 _ #[.slice A1 x1.length c1,.slice none 0 0,.slice none 0 0,.slice none 0 0] [.slice A1 x1.length c1] rfl rfl I1.blk sz42 (one1 rfl) rfl (by simp) ?_
 intro w' hb hg
 replace F1:=Slv.grow aF F1 hg (I1.ga)
 replace I1:=I1.store hb hg
 clear hb hg
 refine ⟨trivial,?_⟩
 refine ad ?_
 go_upto_region 2 with fail
 refine ac (by rfl) ?_
 simp only [List.map]
 have hcap:=I1.cap
 refine a7 (.pointer (some ⟨r,0,none⟩)) (by go_simp) trivial ?_
 clear hcap
 simp only [Act.put,PutA,PutZ,PutS]
 refine sq1 (.func (.func 159) #[] #[.pointer (some ⟨w.heap.size,0,none⟩)]) ?_
 refine af 158 #[.pointer (some ⟨r,0,none⟩),.func (.func 159) #[] #[.pointer (some ⟨w.heap.size,0,none⟩)]] (by go_simp) ?_
 refine Calls.mono (get158 lstP lstR aL r w.heap.size k1 s e1 _ I1.rdr I1.le hs I1.cap I1.cr (fun _ => clos159 r _ s _ _ hs I1.cr)) ?_
 rintro e w2 ⟨v2,x2,k2,e2,rfl,hR2,h2,hg,hs2⟩
 obtain ⟨A2,c2,hv2,_,_⟩:=hR2.shape
 subst hv2
 replace F1:=Slv.grow aF F1 hg (I1.ra)
 have F2:=Slv.since aL hR2 I1.aw
 clear hR2
 have I2:=I1.call h2 hs2.1 hg
 clear I1 h2 hg
 refine ⟨_,rfl,trivial,?_⟩
 simp only [Act.put,PutA,PutZ,PutS]
 refine sq1p (w.heap.size + 1) 1 ?_
 refine aj 43 _ _ rfl rfl (w.heap.size + 1) 1 47 _ #[.slice A1 x1.length c1,.slice A2 x2.length c2,.slice none 0 0,.slice none 0 0] [.slice A2 x2.length c2] rfl rfl I2.blk sz43 (one1 rfl) rfl (by simp) ?_
 intro w' hb hg
 replace F1:=Slv.grow aF F1 hg (I2.ga)
 replace F2:=Slv.grow aL F2 hg (I2.ga)
 replace I2:=I2.store hb hg
 clear hb hg
 refine ⟨trivial,?_⟩
 refine ad ?_
 go_upto_region 3 with fail
 refine ac (by rfl) ?_
 simp only [List.map]
 have hcap:=I2.cap
 refine a7 (.pointer (some ⟨r,0,none⟩)) (by go_simp) trivial ?_
 clear hcap
 simp only [Act.put,PutA,PutZ,PutS]
 refine sq1 (.func (.func 163) #[] #[.pointer (some ⟨w.heap.size,0,none⟩)]) ?_
 refine af 162 #[.pointer (some ⟨r,0,none⟩),.func (.func 163) #[] #[.pointer (some ⟨w.heap.size,0,none⟩)]] (by go_simp) ?_
 refine Calls.mono (get162 cmtP cmtR aY r w.heap.size k2 s e2 _ I2.rdr I2.le hs I2.cap I2.cr (fun _ => clos163 r _ s _ _ hs I2.cr)) ?_
 rintro e w3 ⟨v3,x3,k3,e3,rfl,hR3,h3,hg,hs3⟩
 obtain ⟨A3,c3,hv3,_,_⟩:=hR3.shape
 subst hv3
 replace F1:=Slv.grow aF F1 hg (I2.ra)
 replace F2:=Slv.grow aL F2 hg (I2.ra)
 have F3:=Slv.since aY hR3 I2.aw
 clear hR3
 have I3:=I2.call h3 hs3.1 hg
 clear I2 h3 hg
 refine ⟨_,rfl,trivial,?_⟩
 simp only [Act.put,PutA,PutZ,PutS]
 refine sq1p (w.heap.size + 1) 2 ?_
 refine aj 44 _ _ rfl rfl (w.heap.size + 1) 2 47 _ #[.slice A1 x1.length c1,.slice A2 x2.length c2,.slice A3 x3.length c3,.slice none 0 0] [.slice A3 x3.length c3] rfl rfl I3.blk sz44 (one1 rfl) rfl (by simp) ?_
 intro w' hb hg
 replace F1:=Slv.grow aF F1 hg (I3.ga)
 replace F2:=Slv.grow aL F2 hg (I3.ga)
 replace F3:=Slv.grow aY F3 hg (I3.ga)
 replace I3:=I3.store hb hg
 clear hb hg
 refine ⟨trivial,?_⟩
 refine ad ?_
 go_upto_region 4 with fail
 refine ac (by rfl) ?_
 simp only [List.map]
 have hcap:=I3.cap
 refine a7 (.pointer (some ⟨r,0,none⟩)) (by go_simp) trivial ?_
 clear hcap
 simp only [Act.put,PutA,PutZ,PutS]
 refine sq1 (.func (.func 165) #[] #[.pointer (some ⟨w.heap.size,0,none⟩)]) ?_
 refine af 164 #[.pointer (some ⟨r,0,none⟩),.func (.func 165) #[] #[.pointer (some ⟨w.heap.size,0,none⟩)]] (by go_simp) ?_
 refine Calls.mono (get164 vrP vrR stb_vr r w.heap.size k3 s e3 _ I3.rdr I3.le hs I3.cap I3.cr (fun _ => clos165 r _ s _ _ hs I3.cr)) ?_
 rintro e w4 ⟨v4,x4,k4,e4,rfl,hR4,h4,hg,hs4⟩
 obtain ⟨A4,c4,hv4,_,_⟩:=hR4.shape
 subst hv4
 replace F1:=Slv.grow aF F1 hg (I3.ra)
 replace F2:=Slv.grow aL F2 hg (I3.ra)
 replace F3:=Slv.grow aY F3 hg (I3.ra)
 have F4:=Slv.since stb_vr hR4 I3.aw
 clear hR4
 have I4:=I3.call h4 hs4.1 hg
 clear I3 h4 hg
 refine ⟨_,rfl,trivial,?_⟩
 simp only [Act.put,PutA,PutZ,PutS]
 refine sq1p (w.heap.size + 1) 3 ?_
 refine aj 45 _ _ rfl rfl (w.heap.size + 1) 3 47 _ #[.slice A1 x1.length c1,.slice A2 x2.length c2,.slice A3 x3.length c3,.slice A4 x4.length c4] [.slice A4 x4.length c4] rfl rfl I4.blk sz45 (one1 rfl) rfl (by simp) ?_
 intro w' hb hg
 replace F1:=Slv.grow aF F1 hg (I4.ga)
 replace F2:=Slv.grow aL F2 hg (I4.ga)
 replace F3:=Slv.grow aY F3 hg (I4.ga)
 replace F4:=Slv.grow stb_vr F4 hg (I4.ga)
 replace I4:=I4.store hb hg
 clear hb hg
 refine ⟨trivial,?_⟩
 refine ad ?_
 have FR:stgP _ (aB (w.heap.size + 2) _) [.slice A1 x1.length c1,.slice A2 x2.length c2,.slice A3 x3.length c3,.slice A4 x4.length c4] (x1,x2,x3,x4):=⟨_,_,_,_,rfl,F1,F2,F3,F4⟩
 clear F1 F2 F3 F4
 have hone:=one_stg _ _ _ _ FR
 go_upto_region 5 with fail
 refine ac (by rfl) ?_
 simp only [List.map]
 refine ar 47 _ rfl (w.heap.size + 1) 47 #[.slice A1 x1.length c1,.slice A2 x2.length c2,.slice A3 x3.length c3,.slice A4 x4.length c4] _ rfl I4.blk Tryz.underlying47 rfl size47 trivial ?_
 simp only [Act.put,PutA,PutZ,PutS]
 refine as_ 47 _ _ rfl rfl (w.heap.size + 1) 47 _ [.slice A1 x1.length c1,.slice A2 x2.length c2,.slice A3 x3.length c3,.slice A4 x4.length c4] rfl rfl I4.blk size47 hone rfl ?_
 intro w' hb hg
 replace FR:=Stb.grow stb_stg hg (I4.ga) FR
 replace I4:=I4.store hb hg
 clear hb hg
 refine ⟨trivial,?_⟩
 refine ad ?_
 go_wp2_with fail
 refine bodyPost_ret (v:=.agg #[.slice A1 x1.length c1,.slice A2 x2.length c2,.slice A3 x3.length c3,.slice A4 x4.length c4]) (results_cell_row rfl _ _ (w.heap.size + 1) 47 #[.slice A1 x1.length c1,.slice A2 x2.length c2,.slice A3 x3.length c3,.slice A4 x4.length c4] (0,0) _ rfl I4.blk Tryz.underlying47 rfl size47) rfl ?_
 exact ⟨[.slice A1 x1.length c1,.slice A2 x2.length c2,.slice A3 x3.length c3,.slice A4 x4.length c4],(x1,x2,x3,x4),k4,e4,rfl,rfl,hone,Stb.since stb_stg FR (by omega),I4.rdr,I4.grown,(hs1.seq (hs2.seq (hs3.seq hs4)))⟩
end Go.Proofs.YtmhhcfceikcfbaaGreat
