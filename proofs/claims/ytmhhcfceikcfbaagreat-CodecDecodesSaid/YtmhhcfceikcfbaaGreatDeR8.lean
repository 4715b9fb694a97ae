/- Walks: closures and readers of records. -/
import Derived.Test.YtmhhcfceikcfbaaGreatDeR7
import Derived.Test.YtmhhcfceikcfbaaGreatDeRx
namespace Go.Proofs.YtmhhcfceikcfbaaGreat
open Go.RowKit
set_option maxRecDepth 100000
set_option maxHeartbeats 4000000
theorem clos199_any (r c:Nat) (s:ByteArray) (kmin B:Nat) (hs:s.size≤549755813888) (hcr:c≠r):ClosC twoP twoR 2 199 99 r c s kmin B:=by
 intro w k0 h hk0 hkm hc _
 have hcl:=World.block_lt_of_cell? _ _ hc
 have hrl:=ae h
 have hcg:c≠w.heap.size:=Nat.ne_of_lt hcl
 have I0:Inv 187 99 r c w.heap.size s w (w.heap.size + 1) k0 0 #[.int .i64 0,.int .i64 0] (w.alloc (.cells #[.int .i64 0,.int .i64 0] 187)):=⟨h.alloc _,hk0,heap_alloc_new w _,(World.cell?_of_block (Below.heap_alloc _ _ _ hcl)).trans hc,ap (av w (some r)) _,by omega,hcr,hcg,Nat.le_refl _,by omega,by omega,by simp⟩
 clear h hc
 go_enter Tryz.func199,Tryz.ntmps199
 go_upto_region 1 with fail
 refine ao (S:=fun w' => w'.cell? ⟨c,0,none⟩ = some (.pointer (some ⟨r,0,none⟩))) [(true,0),(true,2),(false,1),(true,4),(false,3),(false,5),(true,6),(false,7)] (by kernel_rfl) (by kernel_rfl) I0.drew.cap ?_
 replace I0:=I0.drew
 simp only [aO,List.getElem?_cons_succ,List.getElem?_cons_zero]
 refine sq2p r 0 ?_
 refine sq2p r 0 ?_
 refine af 43 #[.pointer (some ⟨r,0,none⟩)] (by go_simp) ?_
 refine Calls.mono (az r k0 s 0 _ I0.rdr I0.le (by omega)) ?_
 rintro e w1 ⟨x1,k1,e1,rfl,hx1,h1,hg,hs1⟩
 have I1:=I0.call h1 hs1.1 hg
 clear I0 h1 hg
 refine ⟨_,rfl,I1.cap,?_⟩
 simp only [Act.put,PutA,PutZ,PutS]
 refine bm (.pointer (some ⟨w.heap.size,0,none⟩)) (fun w' _ => by go_simp) ?_
 simp only [Act.put,PutA,PutZ,PutS]
 refine af 43 #[.pointer (some ⟨r,0,none⟩)] (by go_simp) ?_
 refine Calls.mono (az r k1 s e1 _ I1.rdr I1.le (by omega)) ?_
 rintro e w2 ⟨x2,k2,e2,rfl,hx2,h2,hg,hs2⟩
 have I2:=I1.call h2 hs2.1 hg
 clear I1 h2 hg
 refine ⟨_,rfl,I2.cap,?_⟩
 simp only [Act.put,PutA,PutZ,PutS]
 refine aj 3 _ _ rfl rfl w.heap.size 0 187 _ #[.int .i64 x1,.int .i64 0] [.int .i64 x1] rfl rfl I2.blk sz3 (one1 rfl) rfl (by simp) ?_
 intro w' hb hg
 replace I2:=I2.store hb hg
 clear hb hg
 refine ⟨I2.cap,?_⟩
 refine bm (.pointer (some ⟨w.heap.size,1,none⟩)) (fun w' _ => by go_simp) ?_
 simp only [Act.put,PutA,PutZ,PutS]
 refine aj 3 _ _ rfl rfl w.heap.size 1 187 _ #[.int .i64 x1,.int .i64 x2] [.int .i64 x2] rfl rfl I2.blk sz3 (one1 rfl) rfl (by simp) ?_
 intro w' hb hg
 replace I2:=I2.store hb hg
 clear hb hg
 refine ⟨I2.cap,?_⟩
 refine ad ?_
 go_upto_region 2 with fail
 refine ac (by rfl) ?_
 simp only [List.map]
 refine ar 187 _ rfl w.heap.size 187 #[.int .i64 x1,.int .i64 x2] _ rfl I2.blk Tryz.underlying187 rfl size187 trivial ?_
 simp only [Act.put,PutA,PutZ,PutS]
 refine aj 187 _ _ rfl rfl w.heap.size 0 187 _ #[.int .i64 x1,.int .i64 x2] [.int .i64 x1,.int .i64 x2] rfl rfl I2.blk size187 (by simp [Value.oneCell']) rfl (by simp) ?_
 intro w' hb hg
 replace I2:=I2.store hb hg
 clear hb hg
 refine ⟨trivial,ad ?_⟩
 go_wp2_with fail
 refine bodyPost_ret (v:=.agg #[.int .i64 x1,.int .i64 x2]) (results_cell_row rfl _ _ w.heap.size 187 #[.int .i64 x1,.int .i64 x2] (0,0) _ rfl I2.blk Tryz.underlying187 rfl size187) rfl ?_
 exact ⟨[.int .i64 x1,.int .i64 x2],(x1,x2),k2,e2,rfl,rfl,by simp [Value.oneCell'],⟨rfl,hx1,hx2⟩,I2.rdr,I2.grown,(hs1.seq hs2)⟩
theorem clos168 (r c:Nat) (s:ByteArray) (kmin B:Nat) (hs:s.size≤549755813888) (hcr:c≠r):ClosC twoP twoR 2 168 99 r c s kmin B:=by
 intro w k0 h hk0 hkm hc _
 have hcl:=World.block_lt_of_cell? _ _ hc
 have hrl:=ae h
 have hcg:c≠w.heap.size:=Nat.ne_of_lt hcl
 have I0:Inv 190 99 r c w.heap.size s w (w.heap.size + 1) k0 0 #[.int .i64 0,.int .i64 0] (w.alloc (.cells #[.int .i64 0,.int .i64 0] 190)):=⟨h.alloc _,hk0,heap_alloc_new w _,(World.cell?_of_block (Below.heap_alloc _ _ _ hcl)).trans hc,ap (av w (some r)) _,by omega,hcr,hcg,Nat.le_refl _,by omega,by omega,by simp⟩
 clear h hc
 go_enter Tryz.func168,Tryz.ntmps168
 go_upto_region 1 with fail
 refine ao (S:=fun w' => w'.cell? ⟨c,0,none⟩ = some (.pointer (some ⟨r,0,none⟩))) [(true,0),(true,2),(false,1),(true,4),(false,3),(false,5),(true,6),(false,7)] (by kernel_rfl) (by kernel_rfl) I0.drew.cap ?_
 replace I0:=I0.drew
 simp only [aO,List.getElem?_cons_succ,List.getElem?_cons_zero]
 refine sq2p r 0 ?_
 refine sq2p r 0 ?_
 refine af 43 #[.pointer (some ⟨r,0,none⟩)] (by go_simp) ?_
 refine Calls.mono (az r k0 s 0 _ I0.rdr I0.le (by omega)) ?_
 rintro e w1 ⟨x1,k1,e1,rfl,hx1,h1,hg,hs1⟩
 have I1:=I0.call h1 hs1.1 hg
 clear I0 h1 hg
 refine ⟨_,rfl,I1.cap,?_⟩
 simp only [Act.put,PutA,PutZ,PutS]
 refine bm (.pointer (some ⟨w.heap.size,0,none⟩)) (fun w' _ => by go_simp) ?_
 simp only [Act.put,PutA,PutZ,PutS]
 refine af 43 #[.pointer (some ⟨r,0,none⟩)] (by go_simp) ?_
 refine Calls.mono (az r k1 s e1 _ I1.rdr I1.le (by omega)) ?_
 rintro e w2 ⟨x2,k2,e2,rfl,hx2,h2,hg,hs2⟩
 have I2:=I1.call h2 hs2.1 hg
 clear I1 h2 hg
 refine ⟨_,rfl,I2.cap,?_⟩
 simp only [Act.put,PutA,PutZ,PutS]
 refine aj 3 _ _ rfl rfl w.heap.size 0 190 _ #[.int .i64 x1,.int .i64 0] [.int .i64 x1] rfl rfl I2.blk sz3 (one1 rfl) rfl (by simp) ?_
 intro w' hb hg
 replace I2:=I2.store hb hg
 clear hb hg
 refine ⟨I2.cap,?_⟩
 refine bm (.pointer (some ⟨w.heap.size,1,none⟩)) (fun w' _ => by go_simp) ?_
 simp only [Act.put,PutA,PutZ,PutS]
 refine aj 3 _ _ rfl rfl w.heap.size 1 190 _ #[.int .i64 x1,.int .i64 x2] [.int .i64 x2] rfl rfl I2.blk sz3 (one1 rfl) rfl (by simp) ?_
 intro w' hb hg
 replace I2:=I2.store hb hg
 clear hb hg
 refine ⟨I2.cap,?_⟩
 refine ad ?_
 go_upto_region 2 with fail
 refine ac (by rfl) ?_
 simp only [List.map]
 refine ar 190 _ rfl w.heap.size 190 #[.int .i64 x1,.int .i64 x2] _ rfl I2.blk Tryz.underlying190 rfl size190 trivial ?_
 simp only [Act.put,PutA,PutZ,PutS]
 refine aj 190 _ _ rfl rfl w.heap.size 0 190 _ #[.int .i64 x1,.int .i64 x2] [.int .i64 x1,.int .i64 x2] rfl rfl I2.blk size190 (by simp [Value.oneCell']) rfl (by simp) ?_
 intro w' hb hg
 replace I2:=I2.store hb hg
 clear hb hg
 refine ⟨trivial,ad ?_⟩
 go_wp2_with fail
 refine bodyPost_ret (v:=.agg #[.int .i64 x1,.int .i64 x2]) (results_cell_row rfl _ _ w.heap.size 190 #[.int .i64 x1,.int .i64 x2] (0,0) _ rfl I2.blk Tryz.underlying190 rfl size190) rfl ?_
 exact ⟨[.int .i64 x1,.int .i64 x2],(x1,x2),k2,e2,rfl,rfl,by simp [Value.oneCell'],⟨rfl,hx1,hx2⟩,I2.rdr,I2.grown,(hs1.seq hs2)⟩
theorem clos170 (r c:Nat) (s:ByteArray) (kmin B:Nat) (hs:s.size≤549755813888) (hcr:c≠r):ClosC layP layR 4 170 99 r c s kmin B:=by
 intro w k0 h hk0 hkm hc _
 have hcl:=World.block_lt_of_cell? _ _ hc
 have hrl:=ae h
 have hcg:c≠w.heap.size:=Nat.ne_of_lt hcl
 have I0:Inv 201 99 r c w.heap.size s w (w.heap.size + 1) k0 0 #[.int .i64 0,.int .i64 0,.int .i64 0,.bool false] (w.alloc (.cells #[.int .i64 0,.int .i64 0,.int .i64 0,.bool false] 201)):=⟨h.alloc _,hk0,heap_alloc_new w _,(World.cell?_of_block (Below.heap_alloc _ _ _ hcl)).trans hc,ap (av w (some r)) _,by omega,hcr,hcg,Nat.le_refl _,by omega,by omega,by simp⟩
 clear h hc
 go_enter Tryz.func170,Tryz.ntmps170
 go_upto_region 1 with fail
 refine ao (S:=fun w' => w'.cell? ⟨c,0,none⟩ = some (.pointer (some ⟨r,0,none⟩))) [(true,0),(true,2),(true,4),(true,6),(false,1),(true,8),(false,3),(false,5),(false,7),(false,9),(true,10),(false,11),(true,12),(false,13),(true,14),(false,15)] (by kernel_rfl) (by kernel_rfl) I0.drew.cap ?_
 replace I0:=I0.drew
 simp only [aO,List.getElem?_cons_succ,List.getElem?_cons_zero]
 refine sq2p r 0 ?_
 refine sq2p r 0 ?_
 refine sq2p r 0 ?_
 refine sq2p r 0 ?_
 refine af 43 #[.pointer (some ⟨r,0,none⟩)] (by go_simp) ?_
 refine Calls.mono (az r k0 s 0 _ I0.rdr I0.le (by omega)) ?_
 rintro e w1 ⟨x1,k1,e1,rfl,hx1,h1,hg,hs1⟩
 have I1:=I0.call h1 hs1.1 hg
 clear I0 h1 hg
 refine ⟨_,rfl,I1.cap,?_⟩
 simp only [Act.put,PutA,PutZ,PutS]
 refine bm (.pointer (some ⟨w.heap.size,0,none⟩)) (fun w' _ => by go_simp) ?_
 simp only [Act.put,PutA,PutZ,PutS]
 refine af 43 #[.pointer (some ⟨r,0,none⟩)] (by go_simp) ?_
 refine Calls.mono (az r k1 s e1 _ I1.rdr I1.le (by omega)) ?_
 rintro e w2 ⟨x2,k2,e2,rfl,hx2,h2,hg,hs2⟩
 have I2:=I1.call h2 hs2.1 hg
 clear I1 h2 hg
 refine ⟨_,rfl,I2.cap,?_⟩
 simp only [Act.put,PutA,PutZ,PutS]
 refine af 43 #[.pointer (some ⟨r,0,none⟩)] (by go_simp) ?_
 refine Calls.mono (az r k2 s e2 _ I2.rdr I2.le (by omega)) ?_
 rintro e w3 ⟨x3,k3,e3,rfl,hx3,h3,hg,hs3⟩
 have I3:=I2.call h3 hs3.1 hg
 clear I2 h3 hg
 refine ⟨_,rfl,I3.cap,?_⟩
 simp only [Act.put,PutA,PutZ,PutS]
 refine af 80 #[.pointer (some ⟨r,0,none⟩)] (by go_simp) ?_
 refine Calls.mono (flag80 r k3 s e3 _ I3.rdr I3.le (by omega)) ?_
 rintro e w4 ⟨x4,k4,e4,rfl,h4,hg,hs4⟩
 have I4:=I3.call h4 hs4.1 hg
 clear I3 h4 hg
 refine ⟨_,rfl,I4.cap,?_⟩
 simp only [Act.put,PutA,PutZ,PutS]
 refine aj 3 _ _ rfl rfl w.heap.size 0 201 _ #[.int .i64 x1,.int .i64 0,.int .i64 0,.bool false] [.int .i64 x1] rfl rfl I4.blk sz3 (one1 rfl) rfl (by simp) ?_
 intro w' hb hg
 replace I4:=I4.store hb hg
 clear hb hg
 refine ⟨I4.cap,?_⟩
 refine bm (.pointer (some ⟨w.heap.size,1,none⟩)) (fun w' _ => by go_simp) ?_
 simp only [Act.put,PutA,PutZ,PutS]
 refine aj 3 _ _ rfl rfl w.heap.size 1 201 _ #[.int .i64 x1,.int .i64 x2,.int .i64 0,.bool false] [.int .i64 x2] rfl rfl I4.blk sz3 (one1 rfl) rfl (by simp) ?_
 intro w' hb hg
 replace I4:=I4.store hb hg
 clear hb hg
 refine ⟨I4.cap,?_⟩
 refine bm (.pointer (some ⟨w.heap.size,2,none⟩)) (fun w' _ => by go_simp) ?_
 simp only [Act.put,PutA,PutZ,PutS]
 refine aj 3 _ _ rfl rfl w.heap.size 2 201 _ #[.int .i64 x1,.int .i64 x2,.int .i64 x3,.bool false] [.int .i64 x3] rfl rfl I4.blk sz3 (one1 rfl) rfl (by simp) ?_
 intro w' hb hg
 replace I4:=I4.store hb hg
 clear hb hg
 refine ⟨I4.cap,?_⟩
 refine bm (.pointer (some ⟨w.heap.size,3,none⟩)) (fun w' _ => by go_simp) ?_
 simp only [Act.put,PutA,PutZ,PutS]
 refine aj 4 _ _ rfl rfl w.heap.size 3 201 _ #[.int .i64 x1,.int .i64 x2,.int .i64 x3,.bool x4] [.bool x4] rfl rfl I4.blk sz4 (one1 rfl) rfl (by simp) ?_
 intro w' hb hg
 replace I4:=I4.store hb hg
 clear hb hg
 refine ⟨I4.cap,?_⟩
 refine ad ?_
 go_upto_region 2 with fail
 refine ac (by rfl) ?_
 simp only [List.map]
 refine ar 201 _ rfl w.heap.size 201 #[.int .i64 x1,.int .i64 x2,.int .i64 x3,.bool x4] _ rfl I4.blk Tryz.underlying201 rfl size201 trivial ?_
 simp only [Act.put,PutA,PutZ,PutS]
 refine aj 201 _ _ rfl rfl w.heap.size 0 201 _ #[.int .i64 x1,.int .i64 x2,.int .i64 x3,.bool x4] [.int .i64 x1,.int .i64 x2,.int .i64 x3,.bool x4] rfl rfl I4.blk size201 (by simp [Value.oneCell']) rfl (by simp) ?_
 intro w' hb hg
 replace I4:=I4.store hb hg
 clear hb hg
 refine ⟨trivial,ad ?_⟩
 go_wp2_with fail
 refine bodyPost_ret (v:=.agg #[.int .i64 x1,.int .i64 x2,.int .i64 x3,.bool x4]) (results_cell_row rfl _ _ w.heap.size 201 #[.int .i64 x1,.int .i64 x2,.int .i64 x3,.bool x4] (0,0) _ rfl I4.blk Tryz.underlying201 rfl size201) rfl ?_
 exact ⟨[.int .i64 x1,.int .i64 x2,.int .i64 x3,.bool x4],(x1,x2,x3,x4),k4,e4,rfl,rfl,by simp [Value.oneCell'],⟨rfl,hx1,hx2,hx3,trivial⟩,I4.rdr,I4.grown,(hs1.seq (hs2.seq (hs3.seq hs4)))⟩
theorem clos161 (r c:Nat) (s:ByteArray) (kmin B:Nat) (hs:s.size≤549755813888) (hcr:c≠r):ClosC lvlP lvlR 4 161 99 r c s kmin B:=by
 intro w k0 h hk0 hkm hc _
 have hcl:=World.block_lt_of_cell? _ _ hc
 have hrl:=ae h
 have hcg:c≠w.heap.size:=Nat.ne_of_lt hcl
 have I0:Inv 112 99 r c w.heap.size s w (w.heap.size + 1) k0 0 #[.int .i64 0,.int .i64 0,.string ⟨#[]⟩,.int .i64 0] (w.alloc (.cells #[.int .i64 0,.int .i64 0,.string ⟨#[]⟩,.int .i64 0] 112)):=⟨h.alloc _,hk0,heap_alloc_new w _,(World.cell?_of_block (Below.heap_alloc _ _ _ hcl)).trans hc,ap (av w (some r)) _,by omega,hcr,hcg,Nat.le_refl _,by omega,by omega,by simp⟩
 clear h hc
 go_enter Tryz.func161,Tryz.ntmps161
 go_upto_region 1 with fail
 refine ao (S:=fun w' => w'.cell? ⟨c,0,none⟩ = some (.pointer (some ⟨r,0,none⟩))) [(true,0),(true,2),(true,4),(true,6),(false,1),(true,8),(false,3),(false,5),(false,7),(false,9),(true,10),(false,11),(true,12),(false,13),(true,14),(false,15)] (by kernel_rfl) (by kernel_rfl) I0.drew.cap ?_
 replace I0:=I0.drew
 simp only [aO,List.getElem?_cons_succ,List.getElem?_cons_zero]
 refine sq2p r 0 ?_
 refine sq2p r 0 ?_
 refine sq2p r 0 ?_
 refine sq2p r 0 ?_
 refine af 43 #[.pointer (some ⟨r,0,none⟩)] (by go_simp) ?_
 refine Calls.mono (az r k0 s 0 _ I0.rdr I0.le (by omega)) ?_
 rintro e w1 ⟨x1,k1,e1,rfl,hx1,h1,hg,hs1⟩
 have I1:=I0.call h1 hs1.1 hg
 clear I0 h1 hg
 refine ⟨_,rfl,I1.cap,?_⟩
 simp only [Act.put,PutA,PutZ,PutS]
 refine bm (.pointer (some ⟨w.heap.size,0,none⟩)) (fun w' _ => by go_simp) ?_
 simp only [Act.put,PutA,PutZ,PutS]
 refine af 43 #[.pointer (some ⟨r,0,none⟩)] (by go_simp) ?_
 refine Calls.mono (az r k1 s e1 _ I1.rdr I1.le (by omega)) ?_
 rintro e w2 ⟨x2,k2,e2,rfl,hx2,h2,hg,hs2⟩
 have I2:=I1.call h2 hs2.1 hg
 clear I1 h2 hg
 refine ⟨_,rfl,I2.cap,?_⟩
 simp only [Act.put,PutA,PutZ,PutS]
 refine af 142 #[.pointer (some ⟨r,0,none⟩)] (by go_simp) ?_
 refine Calls.mono (text142 r k2 s e2 _ I2.rdr I2.le (by omega)) ?_
 rintro e w3 ⟨x3,k3,e3,rfl,hx3,h3,hg,hs3⟩
 have I3:=I2.call h3 hs3.1 hg
 clear I2 h3 hg
 refine ⟨_,rfl,I3.cap,?_⟩
 simp only [Act.put,PutA,PutZ,PutS]
 refine af 43 #[.pointer (some ⟨r,0,none⟩)] (by go_simp) ?_
 refine Calls.mono (az r k3 s e3 _ I3.rdr I3.le (by omega)) ?_
 rintro e w4 ⟨x4,k4,e4,rfl,hx4,h4,hg,hs4⟩
 have I4:=I3.call h4 hs4.1 hg
 clear I3 h4 hg
 refine ⟨_,rfl,I4.cap,?_⟩
 simp only [Act.put,PutA,PutZ,PutS]
 refine aj 3 _ _ rfl rfl w.heap.size 0 112 _ #[.int .i64 x1,.int .i64 0,.string ⟨#[]⟩,.int .i64 0] [.int .i64 x1] rfl rfl I4.blk sz3 (one1 rfl) rfl (by simp) ?_
 intro w' hb hg
 replace I4:=I4.store hb hg
 clear hb hg
 refine ⟨I4.cap,?_⟩
 refine bm (.pointer (some ⟨w.heap.size,1,none⟩)) (fun w' _ => by go_simp) ?_
 simp only [Act.put,PutA,PutZ,PutS]
 refine aj 3 _ _ rfl rfl w.heap.size 1 112 _ #[.int .i64 x1,.int .i64 x2,.string ⟨#[]⟩,.int .i64 0] [.int .i64 x2] rfl rfl I4.blk sz3 (one1 rfl) rfl (by simp) ?_
 intro w' hb hg
 replace I4:=I4.store hb hg
 clear hb hg
 refine ⟨I4.cap,?_⟩
 refine bm (.pointer (some ⟨w.heap.size,2,none⟩)) (fun w' _ => by go_simp) ?_
 simp only [Act.put,PutA,PutZ,PutS]
 refine aj 9 _ _ rfl rfl w.heap.size 2 112 _ #[.int .i64 x1,.int .i64 x2,.string x3,.int .i64 0] [.string x3] rfl rfl I4.blk sz9 (one1 rfl) rfl (by simp) ?_
 intro w' hb hg
 replace I4:=I4.store hb hg
 clear hb hg
 refine ⟨I4.cap,?_⟩
 refine bm (.pointer (some ⟨w.heap.size,3,none⟩)) (fun w' _ => by go_simp) ?_
 simp only [Act.put,PutA,PutZ,PutS]
 refine aj 3 _ _ rfl rfl w.heap.size 3 112 _ #[.int .i64 x1,.int .i64 x2,.string x3,.int .i64 x4] [.int .i64 x4] rfl rfl I4.blk sz3 (one1 rfl) rfl (by simp) ?_
 intro w' hb hg
 replace I4:=I4.store hb hg
 clear hb hg
 refine ⟨I4.cap,?_⟩
 refine ad ?_
 go_upto_region 2 with fail
 refine ac (by rfl) ?_
 simp only [List.map]
 refine ar 112 _ rfl w.heap.size 112 #[.int .i64 x1,.int .i64 x2,.string x3,.int .i64 x4] _ rfl I4.blk Tryz.underlying112 rfl size112 trivial ?_
 simp only [Act.put,PutA,PutZ,PutS]
 refine aj 112 _ _ rfl rfl w.heap.size 0 112 _ #[.int .i64 x1,.int .i64 x2,.string x3,.int .i64 x4] [.int .i64 x1,.int .i64 x2,.string x3,.int .i64 x4] rfl rfl I4.blk size112 (by simp [Value.oneCell']) rfl (by simp) ?_
 intro w' hb hg
 replace I4:=I4.store hb hg
 clear hb hg
 refine ⟨trivial,ad ?_⟩
 go_wp2_with fail
 refine bodyPost_ret (v:=.agg #[.int .i64 x1,.int .i64 x2,.string x3,.int .i64 x4]) (results_cell_row rfl _ _ w.heap.size 112 #[.int .i64 x1,.int .i64 x2,.string x3,.int .i64 x4] (0,0) _ rfl I4.blk Tryz.underlying112 rfl size112) rfl ?_
 exact ⟨[.int .i64 x1,.int .i64 x2,.string x3,.int .i64 x4],(x1,x2,x3,x4),k4,e4,rfl,rfl,by simp [Value.oneCell'],⟨rfl,hx1,hx2,(show _≤_ from Nat.le_trans hx3 (by omega)),hx4⟩,I4.rdr,I4.grown,(hs1.seq (hs2.seq (hs3.seq hs4)))⟩
theorem clos172 (r c:Nat) (s:ByteArray) (kmin B:Nat) (hs:s.size≤549755813888) (hcr:c≠r):ClosC revP revR 3 172 99 r c s kmin B:=by
 intro w k0 h hk0 hkm hc _
 have hcl:=World.block_lt_of_cell? _ _ hc
 have hrl:=ae h
 have hcg:c≠w.heap.size:=Nat.ne_of_lt hcl
 have I0:Inv 141 99 r c w.heap.size s w (w.heap.size + 1) k0 0 #[.int .i64 0,.string ⟨#[]⟩,.int .i64 0] (w.alloc (.cells #[.int .i64 0,.string ⟨#[]⟩,.int .i64 0] 141)):=⟨h.alloc _,hk0,heap_alloc_new w _,(World.cell?_of_block (Below.heap_alloc _ _ _ hcl)).trans hc,ap (av w (some r)) _,by omega,hcr,hcg,Nat.le_refl _,by omega,by omega,by simp⟩
 clear h hc
 go_enter Tryz.func172,Tryz.ntmps172
 go_upto_region 1 with fail
 refine ao (S:=fun w' => w'.cell? ⟨c,0,none⟩ = some (.pointer (some ⟨r,0,none⟩))) [(true,0),(true,2),(true,4),(false,1),(true,6),(false,3),(false,5),(false,7),(true,8),(false,9),(true,10),(false,11)] (by kernel_rfl) (by kernel_rfl) I0.drew.cap ?_
 replace I0:=I0.drew
 simp only [aO,List.getElem?_cons_succ,List.getElem?_cons_zero]
 refine sq2p r 0 ?_
 refine sq2p r 0 ?_
 refine sq2p r 0 ?_
 refine af 43 #[.pointer (some ⟨r,0,none⟩)] (by go_simp) ?_
 refine Calls.mono (az r k0 s 0 _ I0.rdr I0.le (by omega)) ?_
 rintro e w1 ⟨x1,k1,e1,rfl,hx1,h1,hg,hs1⟩
 have I1:=I0.call h1 hs1.1 hg
 clear I0 h1 hg
 refine ⟨_,rfl,I1.cap,?_⟩
 simp only [Act.put,PutA,PutZ,PutS]
 refine bm (.pointer (some ⟨w.heap.size,0,none⟩)) (fun w' _ => by go_simp) ?_
 simp only [Act.put,PutA,PutZ,PutS]
 refine af 142 #[.pointer (some ⟨r,0,none⟩)] (by go_simp) ?_
 refine Calls.mono (text142 r k1 s e1 _ I1.rdr I1.le (by omega)) ?_
 rintro e w2 ⟨x2,k2,e2,rfl,hx2,h2,hg,hs2⟩
 have I2:=I1.call h2 hs2.1 hg
 clear I1 h2 hg
 refine ⟨_,rfl,I2.cap,?_⟩
 simp only [Act.put,PutA,PutZ,PutS]
 refine af 43 #[.pointer (some ⟨r,0,none⟩)] (by go_simp) ?_
 refine Calls.mono (az r k2 s e2 _ I2.rdr I2.le (by omega)) ?_
 rintro e w3 ⟨x3,k3,e3,rfl,hx3,h3,hg,hs3⟩
 have I3:=I2.call h3 hs3.1 hg
 clear I2 h3 hg
 refine ⟨_,rfl,I3.cap,?_⟩
 simp only [Act.put,PutA,PutZ,PutS]
 refine aj 3 _ _ rfl rfl w.heap.size 0 141 _ #[.int .i64 x1,.string ⟨#[]⟩,.int .i64 0] [.int .i64 x1] rfl rfl I3.blk sz3 (one1 rfl) rfl (by simp) ?_
 intro w' hb hg
 replace I3:=I3.store hb hg
 clear hb hg
 refine ⟨I3.cap,?_⟩
 refine bm (.pointer (some ⟨w.heap.size,1,none⟩)) (fun w' _ => by go_simp) ?_
 simp only [Act.put,PutA,PutZ,PutS]
 refine aj 9 _ _ rfl rfl w.heap.size 1 141 _ #[.int .i64 x1,.string x2,.int .i64 0] [.string x2] rfl rfl I3.blk sz9 (one1 rfl) rfl (by simp) ?_
 intro w' hb hg
 replace I3:=I3.store hb hg
 clear hb hg
 refine ⟨I3.cap,?_⟩
 refine bm (.pointer (some ⟨w.heap.size,2,none⟩)) (fun w' _ => by go_simp) ?_
 simp only [Act.put,PutA,PutZ,PutS]
 refine aj 3 _ _ rfl rfl w.heap.size 2 141 _ #[.int .i64 x1,.string x2,.int .i64 x3] [.int .i64 x3] rfl rfl I3.blk sz3 (one1 rfl) rfl (by simp) ?_
 intro w' hb hg
 replace I3:=I3.store hb hg
 clear hb hg
 refine ⟨I3.cap,?_⟩
 refine ad ?_
 go_upto_region 2 with fail
 refine ac (by rfl) ?_
 simp only [List.map]
 refine ar 141 _ rfl w.heap.size 141 #[.int .i64 x1,.string x2,.int .i64 x3] _ rfl I3.blk Tryz.underlying141 rfl size141 trivial ?_
 simp only [Act.put,PutA,PutZ,PutS]
 refine aj 141 _ _ rfl rfl w.heap.size 0 141 _ #[.int .i64 x1,.string x2,.int .i64 x3] [.int .i64 x1,.string x2,.int .i64 x3] rfl rfl I3.blk size141 (by simp [Value.oneCell']) rfl (by simp) ?_
 intro w' hb hg
 replace I3:=I3.store hb hg
 clear hb hg
 refine ⟨trivial,ad ?_⟩
 go_wp2_with fail
 refine bodyPost_ret (v:=.agg #[.int .i64 x1,.string x2,.int .i64 x3]) (results_cell_row rfl _ _ w.heap.size 141 #[.int .i64 x1,.string x2,.int .i64 x3] (0,0) _ rfl I3.blk Tryz.underlying141 rfl size141) rfl ?_
 exact ⟨[.int .i64 x1,.string x2,.int .i64 x3],(x1,x2,x3),k3,e3,rfl,rfl,by simp [Value.oneCell'],⟨rfl,hx1,(show _≤_ from Nat.le_trans hx2 (by omega)),hx3⟩,I3.rdr,I3.grown,(hs1.seq (hs2.seq hs3))⟩
theorem clos165 (r c:Nat) (s:ByteArray) (kmin B:Nat) (hs:s.size≤549755813888) (hcr:c≠r):ClosC vrP vrR 2 165 99 r c s kmin B:=by
 intro w k0 h hk0 hkm hc _
 have hcl:=World.block_lt_of_cell? _ _ hc
 have hrl:=ae h
 have hcg:c≠w.heap.size:=Nat.ne_of_lt hcl
 have I0:Inv 116 99 r c w.heap.size s w (w.heap.size + 1) k0 0 #[.string ⟨#[]⟩,.string ⟨#[]⟩] (w.alloc (.cells #[.string ⟨#[]⟩,.string ⟨#[]⟩] 116)):=⟨h.alloc _,hk0,heap_alloc_new w _,(World.cell?_of_block (Below.heap_alloc _ _ _ hcl)).trans hc,ap (av w (some r)) _,by omega,hcr,hcg,Nat.le_refl _,by omega,by omega,by simp⟩
 clear h hc
 go_enter Tryz.func165,Tryz.ntmps165
 go_upto_region 1 with fail
 refine ao (S:=fun w' => w'.cell? ⟨c,0,none⟩ = some (.pointer (some ⟨r,0,none⟩))) [(true,0),(true,2),(false,1),(true,4),(false,3),(false,5),(true,6),(false,7)] (by kernel_rfl) (by kernel_rfl) I0.drew.cap ?_
 replace I0:=I0.drew
 simp only [aO,List.getElem?_cons_succ,List.getElem?_cons_zero]
 refine sq2p r 0 ?_
 refine sq2p r 0 ?_
 refine af 142 #[.pointer (some ⟨r,0,none⟩)] (by go_simp) ?_
 refine Calls.mono (text142 r k0 s 0 _ I0.rdr I0.le (by omega)) ?_
 rintro e w1 ⟨x1,k1,e1,rfl,hx1,h1,hg,hs1⟩
 have I1:=I0.call h1 hs1.1 hg
 clear I0 h1 hg
 refine ⟨_,rfl,I1.cap,?_⟩
 simp only [Act.put,PutA,PutZ,PutS]
 refine bm (.pointer (some ⟨w.heap.size,0,none⟩)) (fun w' _ => by go_simp) ?_
 simp only [Act.put,PutA,PutZ,PutS]
 refine af 142 #[.pointer (some ⟨r,0,none⟩)] (by go_simp) ?_
 refine Calls.mono (text142 r k1 s e1 _ I1.rdr I1.le (by omega)) ?_
 rintro e w2 ⟨x2,k2,e2,rfl,hx2,h2,hg,hs2⟩
 have I2:=I1.call h2 hs2.1 hg
 clear I1 h2 hg
 refine ⟨_,rfl,I2.cap,?_⟩
 simp only [Act.put,PutA,PutZ,PutS]
 refine aj 9 _ _ rfl rfl w.heap.size 0 116 _ #[.string x1,.string ⟨#[]⟩] [.string x1] rfl rfl I2.blk sz9 (one1 rfl) rfl (by simp) ?_
 intro w' hb hg
 replace I2:=I2.store hb hg
 clear hb hg
 refine ⟨I2.cap,?_⟩
 refine bm (.pointer (some ⟨w.heap.size,1,none⟩)) (fun w' _ => by go_simp) ?_
 simp only [Act.put,PutA,PutZ,PutS]
 refine aj 9 _ _ rfl rfl w.heap.size 1 116 _ #[.string x1,.string x2] [.string x2] rfl rfl I2.blk sz9 (one1 rfl) rfl (by simp) ?_
 intro w' hb hg
 replace I2:=I2.store hb hg
 clear hb hg
 refine ⟨I2.cap,?_⟩
 refine ad ?_
 go_upto_region 2 with fail
 refine ac (by rfl) ?_
 simp only [List.map]
 refine ar 116 _ rfl w.heap.size 116 #[.string x1,.string x2] _ rfl I2.blk Tryz.underlying116 rfl size116 trivial ?_
 simp only [Act.put,PutA,PutZ,PutS]
 refine aj 116 _ _ rfl rfl w.heap.size 0 116 _ #[.string x1,.string x2] [.string x1,.string x2] rfl rfl I2.blk size116 (by simp [Value.oneCell']) rfl (by simp) ?_
 intro w' hb hg
 replace I2:=I2.store hb hg
 clear hb hg
 refine ⟨trivial,ad ?_⟩
 go_wp2_with fail
 refine bodyPost_ret (v:=.agg #[.string x1,.string x2]) (results_cell_row rfl _ _ w.heap.size 116 #[.string x1,.string x2] (0,0) _ rfl I2.blk Tryz.underlying116 rfl size116) rfl ?_
 exact ⟨[.string x1,.string x2],(x1,x2),k2,e2,rfl,rfl,by simp [Value.oneCell'],⟨rfl,(show _≤_ from Nat.le_trans hx1 (by omega)),(show _≤_ from Nat.le_trans hx2 (by omega))⟩,I2.rdr,I2.grown,(hs1.seq hs2)⟩
theorem clos163 (r c:Nat) (s:ByteArray) (kmin B:Nat) (hs:s.size≤549755813888) (hcr:c≠r):ClosC cmtP cmtR 6 163 99 r c s kmin B:=by
 intro w k0 h hk0 hkm hc _
 have hcl:=World.block_lt_of_cell? _ _ hc
 have hrl:=ae h
 have hcg:c≠w.heap.size:=Nat.ne_of_lt hcl
 have I0:Inv 114 99 r c w.heap.size s w (w.heap.size + 1) k0 0 #[.int .i64 0,.int .i64 0,.string ⟨#[]⟩,.int .i64 0,.string ⟨#[]⟩,.bool false] (w.alloc (.cells #[.int .i64 0,.int .i64 0,.string ⟨#[]⟩,.int .i64 0,.string ⟨#[]⟩,.bool false] 114)):=⟨h.alloc _,hk0,heap_alloc_new w _,(World.cell?_of_block (Below.heap_alloc _ _ _ hcl)).trans hc,ap (av w (some r)) _,by omega,hcr,hcg,Nat.le_refl _,by omega,by omega,by simp⟩
 clear h hc
 go_enter Tryz.func163,Tryz.ntmps163
 go_upto_region 1 with fail
 refine ao (S:=fun w' => w'.cell? ⟨c,0,none⟩ = some (.pointer (some ⟨r,0,none⟩))) [(true,0),(true,2),(true,4),(true,6),(true,8),(true,10),(false,1),(true,12),(false,3),(false,5),(false,7),(false,9),(false,11),(false,13),(true,14),(false,15),(true,16),(false,17),(true,18),(false,19),(true,20),(false,21),(true,22),(false,23)] (by kernel_rfl) (by kernel_rfl) I0.drew.cap ?_
 replace I0:=I0.drew
 simp only [aO,List.getElem?_cons_succ,List.getElem?_cons_zero]
 refine sq2p r 0 ?_
 refine sq2p r 0 ?_
 refine sq2p r 0 ?_
 refine sq2p r 0 ?_
 refine sq2p r 0 ?_
 refine sq2p r 0 ?_
 refine af 43 #[.pointer (some ⟨r,0,none⟩)] (by go_simp) ?_
 refine Calls.mono (az r k0 s 0 _ I0.rdr I0.le (by omega)) ?_
 rintro e w1 ⟨x1,k1,e1,rfl,hx1,h1,hg,hs1⟩
 have I1:=I0.call h1 hs1.1 hg
 clear I0 h1 hg
 refine ⟨_,rfl,I1.cap,?_⟩
 simp only [Act.put,PutA,PutZ,PutS]
 refine bm (.pointer (some ⟨w.heap.size,0,none⟩)) (fun w' _ => by go_simp) ?_
 simp only [Act.put,PutA,PutZ,PutS]
 refine af 43 #[.pointer (some ⟨r,0,none⟩)] (by go_simp) ?_
 refine Calls.mono (az r k1 s e1 _ I1.rdr I1.le (by omega)) ?_
 rintro e w2 ⟨x2,k2,e2,rfl,hx2,h2,hg,hs2⟩
 have I2:=I1.call h2 hs2.1 hg
 clear I1 h2 hg
 refine ⟨_,rfl,I2.cap,?_⟩
 simp only [Act.put,PutA,PutZ,PutS]
 refine af 142 #[.pointer (some ⟨r,0,none⟩)] (by go_simp) ?_
 refine Calls.mono (text142 r k2 s e2 _ I2.rdr I2.le (by omega)) ?_
 rintro e w3 ⟨x3,k3,e3,rfl,hx3,h3,hg,hs3⟩
 have I3:=I2.call h3 hs3.1 hg
 clear I2 h3 hg
 refine ⟨_,rfl,I3.cap,?_⟩
 simp only [Act.put,PutA,PutZ,PutS]
 refine af 43 #[.pointer (some ⟨r,0,none⟩)] (by go_simp) ?_
 refine Calls.mono (az r k3 s e3 _ I3.rdr I3.le (by omega)) ?_
 rintro e w4 ⟨x4,k4,e4,rfl,hx4,h4,hg,hs4⟩
 have I4:=I3.call h4 hs4.1 hg
 clear I3 h4 hg
 refine ⟨_,rfl,I4.cap,?_⟩
 simp only [Act.put,PutA,PutZ,PutS]
 refine af 142 #[.pointer (some ⟨r,0,none⟩)] (by go_simp) ?_
 refine Calls.mono (text142 r k4 s e4 _ I4.rdr I4.le (by omega)) ?_
 rintro e w5 ⟨x5,k5,e5,rfl,hx5,h5,hg,hs5⟩
 have I5:=I4.call h5 hs5.1 hg
 clear I4 h5 hg
 refine ⟨_,rfl,I5.cap,?_⟩
 simp only [Act.put,PutA,PutZ,PutS]
 refine af 80 #[.pointer (some ⟨r,0,none⟩)] (by go_simp) ?_
 refine Calls.mono (flag80 r k5 s e5 _ I5.rdr I5.le (by omega)) ?_
 rintro e w6 ⟨x6,k6,e6,rfl,h6,hg,hs6⟩
 have I6:=I5.call h6 hs6.1 hg
 clear I5 h6 hg
 refine ⟨_,rfl,I6.cap,?_⟩
 simp only [Act.put,PutA,PutZ,PutS]
 refine aj 3 _ _ rfl rfl w.heap.size 0 114 _ #[.int .i64 x1,.int .i64 0,.string ⟨#[]⟩,.int .i64 0,.string ⟨#[]⟩,.bool false] [.int .i64 x1] rfl rfl I6.blk sz3 (one1 rfl) rfl (by simp) ?_
 intro w' hb hg
 replace I6:=I6.store hb hg
 clear hb hg
 refine ⟨I6.cap,?_⟩
 refine bm (.pointer (some ⟨w.heap.size,1,none⟩)) (fun w' _ => by go_simp) ?_
 simp only [Act.put,PutA,PutZ,PutS]
 refine aj 3 _ _ rfl rfl w.heap.size 1 114 _ #[.int .i64 x1,.int .i64 x2,.string ⟨#[]⟩,.int .i64 0,.string ⟨#[]⟩,.bool false] [.int .i64 x2] rfl rfl I6.blk sz3 (one1 rfl) rfl (by simp) ?_
 intro w' hb hg
 replace I6:=I6.store hb hg
 clear hb hg
 refine ⟨I6.cap,?_⟩
 refine bm (.pointer (some ⟨w.heap.size,2,none⟩)) (fun w' _ => by go_simp) ?_
 simp only [Act.put,PutA,PutZ,PutS]
 refine aj 9 _ _ rfl rfl w.heap.size 2 114 _ #[.int .i64 x1,.int .i64 x2,.string x3,.int .i64 0,.string ⟨#[]⟩,.bool false] [.string x3] rfl rfl I6.blk sz9 (one1 rfl) rfl (by simp) ?_
 intro w' hb hg
 replace I6:=I6.store hb hg
 clear hb hg
 refine ⟨I6.cap,?_⟩
 refine bm (.pointer (some ⟨w.heap.size,3,none⟩)) (fun w' _ => by go_simp) ?_
 simp only [Act.put,PutA,PutZ,PutS]
 refine aj 3 _ _ rfl rfl w.heap.size 3 114 _ #[.int .i64 x1,.int .i64 x2,.string x3,.int .i64 x4,.string ⟨#[]⟩,.bool false] [.int .i64 x4] rfl rfl I6.blk sz3 (one1 rfl) rfl (by simp) ?_
 intro w' hb hg
 replace I6:=I6.store hb hg
 clear hb hg
 refine ⟨I6.cap,?_⟩
 refine bm (.pointer (some ⟨w.heap.size,4,none⟩)) (fun w' _ => by go_simp) ?_
 simp only [Act.put,PutA,PutZ,PutS]
 refine aj 9 _ _ rfl rfl w.heap.size 4 114 _ #[.int .i64 x1,.int .i64 x2,.string x3,.int .i64 x4,.string x5,.bool false] [.string x5] rfl rfl I6.blk sz9 (one1 rfl) rfl (by simp) ?_
 intro w' hb hg
 replace I6:=I6.store hb hg
 clear hb hg
 refine ⟨I6.cap,?_⟩
 refine bm (.pointer (some ⟨w.heap.size,5,none⟩)) (fun w' _ => by go_simp) ?_
 simp only [Act.put,PutA,PutZ,PutS]
 refine aj 4 _ _ rfl rfl w.heap.size 5 114 _ #[.int .i64 x1,.int .i64 x2,.string x3,.int .i64 x4,.string x5,.bool x6] [.bool x6] rfl rfl I6.blk sz4 (one1 rfl) rfl (by simp) ?_
 intro w' hb hg
 replace I6:=I6.store hb hg
 clear hb hg
 refine ⟨I6.cap,?_⟩
 refine ad ?_
 go_upto_region 2 with fail
 refine ac (by rfl) ?_
 simp only [List.map]
 refine ar 114 _ rfl w.heap.size 114 #[.int .i64 x1,.int .i64 x2,.string x3,.int .i64 x4,.string x5,.bool x6] _ rfl I6.blk Tryz.underlying114 rfl size114 trivial ?_
 simp only [Act.put,PutA,PutZ,PutS]
 refine aj 114 _ _ rfl rfl w.heap.size 0 114 _ #[.int .i64 x1,.int .i64 x2,.string x3,.int .i64 x4,.string x5,.bool x6] [.int .i64 x1,.int .i64 x2,.string x3,.int .i64 x4,.string x5,.bool x6] rfl rfl I6.blk size114 (by simp [Value.oneCell']) rfl (by simp) ?_
 intro w' hb hg
 replace I6:=I6.store hb hg
 clear hb hg
 refine ⟨trivial,ad ?_⟩
 go_wp2_with fail
 refine bodyPost_ret (v:=.agg #[.int .i64 x1,.int .i64 x2,.string x3,.int .i64 x4,.string x5,.bool x6]) (results_cell_row rfl _ _ w.heap.size 114 #[.int .i64 x1,.int .i64 x2,.string x3,.int .i64 x4,.string x5,.bool x6] (0,0) _ rfl I6.blk Tryz.underlying114 rfl size114) rfl ?_
 exact ⟨[.int .i64 x1,.int .i64 x2,.string x3,.int .i64 x4,.string x5,.bool x6],(x1,x2,x3,x4,x5,x6),k6,e6,rfl,rfl,by simp [Value.oneCell'],⟨rfl,hx1,hx2,(show _≤_ from Nat.le_trans hx3 (by omega)),hx4,(show _≤_ from Nat.le_trans hx5 (by omega)),trivial⟩,I6.rdr,I6.grown,(hs1.seq (hs2.seq (hs3.seq (hs4.seq (hs5.seq hs6)))))⟩
end Go.Proofs.YtmhhcfceikcfbaaGreat
