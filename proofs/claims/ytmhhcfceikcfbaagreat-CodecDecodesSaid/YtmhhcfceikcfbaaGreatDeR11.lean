/- Walks: readers of items, rows, cells, pieces. -/
import Derived.Laws.IdiomStrings
import Derived.BigQuiet
import Derived.Deep.Cut
import Derived.Test.YtmhhcfceikcfbaaGreatDeLy3
import Derived.Test.YtmhhcfceikcfbaaGreatDeLy4
namespace Go.Proofs.YtmhhcfceikcfbaaGreat
open Go.RowKit
set_option maxRecDepth 100000
set_option maxHeartbeats 4000000
def ItemsR {α:Type} (R:Rp α) (p:Rd α) (n:Nat) (s:ByteArray):Prop:=∀ (r k:Nat) (e:Int) (w:World),Rdr 99 r s k e w→k≤s.size→(e = 0→s.size - k < n) →
 Calls Tryz.prog 65 #[.pointer (some ⟨r,0,none⟩)] w (bq R p 11 99 r s k e w)
theorem clos154 {α:Type} (R:Rp α) (p:Rd α) (hR:Stb R) (n:Nat) (s:ByteArray) (hs:s.size≤549755813888) (HI:ItemsR R p n s) (r c:Nat) (kmin B:Nat) (hcr:c≠r) (hn:s.size - kmin≤n):ClosC (ceP R) (ceR p) 7 154 99 r c s kmin B:=by
 intro w k0 h hk0 hkm hc _
 have hcl:=World.block_lt_of_cell? _ _ hc
 have hrl:=ae h
 have hcg:c≠w.heap.size:=Nat.ne_of_lt hcl
 have I0:Inv 174 99 r c w.heap.size s w (w.heap.size + 1) k0 0 #[.int .i64 0,.slice none 0 0,.int .i64 0,.int .i64 0,.slice none 0 0,.slice none 0 0,.slice none 0 0] (w.alloc (.cells #[.int .i64 0,.slice none 0 0,.int .i64 0,.int .i64 0,.slice none 0 0,.slice none 0 0,.slice none 0 0] 174)):=⟨h.alloc _,hk0,heap_alloc_new w _,(World.cell?_of_block (Below.heap_alloc _ _ _ hcl)).trans hc,ap (av w (some r)) _,by omega,hcr,hcg,Nat.le_refl _,by omega,by omega,by simp⟩
 have D0:(0:Int) = 0→s.size - k0 < n:=fun _ => by omega
 clear h hc
 go_enter Tryz.func154,Tryz.ntmps154
 go_upto_region 1 with fail
 refine ao (S:=fun w' => w'.cell? ⟨c,0,none⟩ = some (.pointer (some ⟨r,0,none⟩))) [(true,0),(true,2),(true,4),(false,1),(true,6),(false,3),(false,5),(false,7),(true,8),(false,9),(true,10),(false,11)] (by kernel_rfl) (by kernel_rfl) I0.drew.cap ?_
 replace I0:=I0.drew
 simp only [aO,List.getElem?_cons_succ,List.getElem?_cons_zero]
 refine sq2p r 0 ?_
 refine sq2p r 0 ?_
 refine sq2p r 0 ?_
 refine af 43 #[.pointer (some ⟨r,0,none⟩)] (by go_simp) ?_
 refine Calls.mono (az r k0 s 0 _ I0.rdr I0.le (by omega)) ?_
 rintro e w1 ⟨x1,k1,e1,rfl,hx1,h1,hg,hs1⟩
 have I1:=I0.call h1 hs1.1 hg
 clear I0 h1 hg
 have D1:=aN D0 hs1
 clear D0
 refine ⟨_,rfl,I1.cap,?_⟩
 simp only [Act.put,PutA,PutZ,PutS]
 refine sq2p (w.heap.size) 0 ?_
 refine af 91 #[.pointer (some ⟨r,0,none⟩)] (by go_simp) ?_
 refine Calls.mono (rd91 r k1 s e1 _ I1.rdr I1.le hs) ?_
 rintro e w2 ⟨vs2,x2,k2,e2,rfl,hl2,ho2,hR2,h2,hg,hs2⟩
 obtain ⟨u2_0,u2_1,u2_2,u2_3,u2_4,rfl⟩:=len_5 hl2
 have F2:=Stb.since ay hR2 I1.aw
 clear hR2
 have I2:=I1.call h2 hs2.1 hg
 clear I1 h2 hg
 have D2:=aN D1 hs2
 clear D1
 refine ⟨_,rfl,I2.cap,?_⟩
 simp only [Act.put,PutA,PutZ,PutS]
 refine af 65 #[.pointer (some ⟨r,0,none⟩)] (by go_simp) ?_
 refine Calls.mono (HI r k2 e2 _ I2.rdr I2.le D2) ?_
 rintro e w3 ⟨v3,x3,k3,e3,rfl,hR3,h3,hg,hs3⟩
 obtain ⟨A3,c3,hv3,_,_⟩:=hR3.shape
 subst hv3
 replace F2:=Stb.grow ay hg (I2.ra) F2
 have F3:=Slv.since hR hR3 I2.aw
 clear hR3
 have I3:=I2.call h3 hs3.1 hg
 clear I2 h3 hg
 have D3:=aN D2 hs3
 clear D2
 refine ⟨_,rfl,I3.cap,?_⟩
 simp only [Act.put,PutA,PutZ,PutS]
 refine aj 3 _ _ rfl rfl (w.heap.size) 0 174 _ #[.int .i64 x1,.slice none 0 0,.int .i64 0,.int .i64 0,.slice none 0 0,.slice none 0 0,.slice none 0 0] [.int .i64 x1] rfl rfl I3.blk sz3 (one1 rfl) rfl (by simp) ?_
 intro w' hb hg
 replace F2:=Stb.grow ay hg (I3.ga) F2
 replace F3:=Slv.grow hR F3 hg (I3.ga)
 replace I3:=I3.store hb hg
 clear hb hg
 refine ⟨I3.cap,?_⟩
 refine sq2p (w.heap.size) 1 ?_
 refine aj 40 _ _ rfl rfl (w.heap.size) 1 174 _ #[.int .i64 x1,u2_0,u2_1,u2_2,u2_3,u2_4,.slice none 0 0] [u2_0,u2_1,u2_2,u2_3,u2_4] rfl rfl I3.blk sz40 (by first | assumption | simp [Value.oneCell']) rfl (by simp) ?_
 intro w' hb hg
 replace F2:=Stb.grow ay hg (I3.ga) F2
 replace F3:=Slv.grow hR F3 hg (I3.ga)
 replace I3:=I3.store hb hg
 clear hb hg
 refine ⟨I3.cap,?_⟩
 refine sq2p (w.heap.size) 6 ?_
 refine aj 33 _ _ rfl rfl (w.heap.size) 6 174 _ #[.int .i64 x1,u2_0,u2_1,u2_2,u2_3,u2_4,.slice A3 x3.length c3] [.slice A3 x3.length c3] rfl rfl I3.blk sz33 (one1 rfl) rfl (by simp) ?_
 intro w' hb hg
 replace F2:=Stb.grow ay hg (I3.ga) F2
 replace F3:=Slv.grow hR F3 hg (I3.ga)
 replace I3:=I3.store hb hg
 clear hb hg
 refine ⟨I3.cap,?_⟩
 refine ad ?_
 have FR:ceP R _ (aB (w.heap.size + 1) _) [.int .i64 x1,u2_0,u2_1,u2_2,u2_3,u2_4,.slice A3 x3.length c3] (x1,x2,x3):=⟨_,_,_,_,_,_,rfl,hx1,F2,F3⟩
 clear F2 F3
 have hone:=one_ce _ _ _ _ FR
 go_upto_region 2 with fail
 refine ac (by rfl) ?_
 simp only [List.map]
 refine ar 174 _ rfl (w.heap.size) 174 #[.int .i64 x1,u2_0,u2_1,u2_2,u2_3,u2_4,.slice A3 x3.length c3] _ rfl I3.blk Tryz.underlying174 rfl size174 trivial ?_
 simp only [Act.put,PutA,PutZ,PutS]
 refine as_ 174 _ _ rfl rfl (w.heap.size) 174 _ [.int .i64 x1,u2_0,u2_1,u2_2,u2_3,u2_4,.slice A3 x3.length c3] rfl rfl I3.blk size174 hone rfl ?_
 intro w' hb hg
 replace FR:=Stb.grow (bI hR) hg (I3.ga) FR
 replace I3:=I3.store hb hg
 clear hb hg
 refine ⟨trivial,?_⟩
 refine ad ?_
 go_wp2_with fail
 refine bodyPost_ret (v:=.agg #[.int .i64 x1,u2_0,u2_1,u2_2,u2_3,u2_4,.slice A3 x3.length c3]) (results_cell_row rfl _ _ (w.heap.size) 174 #[.int .i64 x1,u2_0,u2_1,u2_2,u2_3,u2_4,.slice A3 x3.length c3] (0,0) _ rfl I3.blk Tryz.underlying174 rfl size174) rfl ?_
 exact ⟨[.int .i64 x1,u2_0,u2_1,u2_2,u2_3,u2_4,.slice A3 x3.length c3],(x1,x2,x3),k3,e3,rfl,rfl,hone,Stb.since (bI hR) FR (by omega),I3.rdr,I3.grown,(hs1.seq (hs2.seq hs3))⟩
theorem rd82 {α:Type} (R:Rp α) (p:Rd α) (hR:Stb R) (n:Nat) (s:ByteArray) (hs:s.size≤549755813888) (HI:ItemsR R p n s) (r k0:Nat) (e0:Int) (w:World) (h:Rdr 99 r s k0 e0 w) (hk0:k0≤s.size) (hn:e0 = 0→s.size - k0 < n) :
  Calls Tryz.prog 82 #[.pointer (some ⟨r,0,none⟩)] w (bq (ceP R) (ceR p) 7 99 r s k0 e0 w):=by
 have hrw:=ae h
 have hcr:w.heap.size≠r:=by omega
 have C:=qH (get153 (ceP R) (ceR p) (bI hR) r w.heap.size k0 s e0 (w.alloc (.cells #[.pointer (some ⟨r,0,none⟩)] 97)) (h.alloc _) hk0 hs (aa (heap_alloc_new w _) 0) hcr (fun h0 => clos154 R p hR n s hs HI r _ _ _ hcr (by have:=hn h0; omega)))
 clear h
 go_enter Tryz.func82,Tryz.ntmps82
 go_wp2_with fail
 refine C.out.mono ?_
 rintro e w1 hl
 have HL:=qH (hl.up _ (bI hR))
 obtain ⟨v,l,k',e2,rfl,_⟩:=hl
 clear C
 go_wp2_with fail
 go_ret
 exact HL.out
theorem clos152 {α:Type} (R:Rp α) (p:Rd α) (hR:Stb R) (n:Nat) (s:ByteArray) (hs:s.size≤549755813888) (HI:ItemsR R p n s) (r c:Nat) (kmin B:Nat) (hcr:c≠r) (hn:s.size - kmin≤n):ClosC (rwP R) (rwR p) 6 152 99 r c s kmin B:=by
 intro w k0 h hk0 hkm hc _
 have hcl:=World.block_lt_of_cell? _ _ hc
 have hrl:=ae h
 have hcg:c≠w.heap.size:=Nat.ne_of_lt hcl
 have I0:Inv 156 99 r c w.heap.size s w (w.heap.size + 1) k0 0 #[.slice none 0 0,.int .i64 0,.int .i64 0,.slice none 0 0,.slice none 0 0,.slice none 0 0] (w.alloc (.cells #[.slice none 0 0,.int .i64 0,.int .i64 0,.slice none 0 0,.slice none 0 0,.slice none 0 0] 156)):=⟨h.alloc _,hk0,heap_alloc_new w _,(World.cell?_of_block (Below.heap_alloc _ _ _ hcl)).trans hc,ap (av w (some r)) _,by omega,hcr,hcg,Nat.le_refl _,by omega,by omega,by simp⟩
 have D0:(0:Int) = 0→s.size - k0 < n:=fun _ => by omega
 clear h hc
 go_enter Tryz.func152,Tryz.ntmps152
 go_upto_region 1 with fail
 refine ao (S:=fun w' => w'.cell? ⟨c,0,none⟩ = some (.pointer (some ⟨r,0,none⟩))) [(true,0),(true,2),(false,1),(true,4),(false,3),(false,5),(true,6),(false,7)] (by kernel_rfl) (by kernel_rfl) I0.drew.cap ?_
 replace I0:=I0.drew
 simp only [aO,List.getElem?_cons_succ,List.getElem?_cons_zero]
 refine sq2p r 0 ?_
 refine sq2p r 0 ?_
 refine af 91 #[.pointer (some ⟨r,0,none⟩)] (by go_simp) ?_
 refine Calls.mono (rd91 r k0 s 0 _ I0.rdr I0.le hs) ?_
 rintro e w1 ⟨vs1,x1,k1,e1,rfl,hl1,ho1,hR1,h1,hg,hs1⟩
 obtain ⟨u1_0,u1_1,u1_2,u1_3,u1_4,rfl⟩:=len_5 hl1
 have F1:=Stb.since ay hR1 I0.aw
 clear hR1
 have I1:=I0.call h1 hs1.1 hg
 clear I0 h1 hg
 have D1:=aN D0 hs1
 clear D0
 refine ⟨_,rfl,I1.cap,?_⟩
 simp only [Act.put,PutA,PutZ,PutS]
 refine sq2p (w.heap.size) 0 ?_
 refine af 82 #[.pointer (some ⟨r,0,none⟩)] (by go_simp) ?_
 refine Calls.mono (rd82 R p hR n s hs HI r k1 e1 _ I1.rdr I1.le D1) ?_
 rintro e w2 ⟨v2,x2,k2,e2,rfl,hR2,h2,hg,hs2⟩
 obtain ⟨A2,c2,hv2,_,_⟩:=hR2.shape
 subst hv2
 replace F1:=Stb.grow ay hg (I1.ra) F1
 have F2:=Slv.since (bI hR) hR2 I1.aw
 clear hR2
 have I2:=I1.call h2 hs2.1 hg
 clear I1 h2 hg
 have D2:=aN D1 hs2
 clear D1
 refine ⟨_,rfl,I2.cap,?_⟩
 simp only [Act.put,PutA,PutZ,PutS]
 refine aj 40 _ _ rfl rfl (w.heap.size) 0 156 _ #[u1_0,u1_1,u1_2,u1_3,u1_4,.slice none 0 0] [u1_0,u1_1,u1_2,u1_3,u1_4] rfl rfl I2.blk sz40 (by first | assumption | simp [Value.oneCell']) rfl (by simp) ?_
 intro w' hb hg
 replace F1:=Stb.grow ay hg (I2.ga) F1
 replace F2:=Slv.grow (bI hR) F2 hg (I2.ga)
 replace I2:=I2.store hb hg
 clear hb hg
 refine ⟨I2.cap,?_⟩
 refine sq2p (w.heap.size) 5 ?_
 refine aj 66 _ _ rfl rfl (w.heap.size) 5 156 _ #[u1_0,u1_1,u1_2,u1_3,u1_4,.slice A2 x2.length c2] [.slice A2 x2.length c2] rfl rfl I2.blk sz66 (one1 rfl) rfl (by simp) ?_
 intro w' hb hg
 replace F1:=Stb.grow ay hg (I2.ga) F1
 replace F2:=Slv.grow (bI hR) F2 hg (I2.ga)
 replace I2:=I2.store hb hg
 clear hb hg
 refine ⟨I2.cap,?_⟩
 refine ad ?_
 have FR:rwP R _ (aB (w.heap.size + 1) _) [u1_0,u1_1,u1_2,u1_3,u1_4,.slice A2 x2.length c2] (x1,x2):=⟨_,_,_,_,_,_,rfl,F1,F2⟩
 clear F1 F2
 have hone:=one_rw _ _ _ _ FR
 go_upto_region 2 with fail
 refine ac (by rfl) ?_
 simp only [List.map]
 refine ar 156 _ rfl (w.heap.size) 156 #[u1_0,u1_1,u1_2,u1_3,u1_4,.slice A2 x2.length c2] _ rfl I2.blk Tryz.underlying156 rfl size156 trivial ?_
 simp only [Act.put,PutA,PutZ,PutS]
 refine as_ 156 _ _ rfl rfl (w.heap.size) 156 _ [u1_0,u1_1,u1_2,u1_3,u1_4,.slice A2 x2.length c2] rfl rfl I2.blk size156 hone rfl ?_
 intro w' hb hg
 replace FR:=Stb.grow (bs hR) hg (I2.ga) FR
 replace I2:=I2.store hb hg
 clear hb hg
 refine ⟨trivial,?_⟩
 refine ad ?_
 go_wp2_with fail
 refine bodyPost_ret (v:=.agg #[u1_0,u1_1,u1_2,u1_3,u1_4,.slice A2 x2.length c2]) (results_cell_row rfl _ _ (w.heap.size) 156 #[u1_0,u1_1,u1_2,u1_3,u1_4,.slice A2 x2.length c2] (0,0) _ rfl I2.blk Tryz.underlying156 rfl size156) rfl ?_
 exact ⟨[u1_0,u1_1,u1_2,u1_3,u1_4,.slice A2 x2.length c2],(x1,x2),k2,e2,rfl,rfl,hone,Stb.since (bs hR) FR (by omega),I2.rdr,I2.grown,(hs1.seq hs2)⟩
theorem rd81 {α:Type} (R:Rp α) (p:Rd α) (hR:Stb R) (n:Nat) (s:ByteArray) (hs:s.size≤549755813888) (HI:ItemsR R p n s) (r k0:Nat) (e0:Int) (w:World) (h:Rdr 99 r s k0 e0 w) (hk0:k0≤s.size) (hn:e0 = 0→s.size - k0 < n) :
  Calls Tryz.prog 81 #[.pointer (some ⟨r,0,none⟩)] w (bq (rwP R) (rwR p) 6 99 r s k0 e0 w):=by
 have hrw:=ae h
 have hcr:w.heap.size≠r:=by omega
 have C:=qH (get151 (rwP R) (rwR p) (bs hR) r w.heap.size k0 s e0 (w.alloc (.cells #[.pointer (some ⟨r,0,none⟩)] 97)) (h.alloc _) hk0 hs (aa (heap_alloc_new w _) 0) hcr (fun h0 => clos152 R p hR n s hs HI r _ _ _ hcr (by have:=hn h0; omega)))
 clear h
 go_enter Tryz.func81,Tryz.ntmps81
 go_wp2_with fail
 refine C.out.mono ?_
 rintro e w1 hl
 have HL:=qH (hl.up _ (bs hR))
 obtain ⟨v,l,k',e2,rfl,_⟩:=hl
 clear C
 go_wp2_with fail
 go_ret
 exact HL.out
theorem clos141 {α:Type} (R:Rp α) (p:Rd α) (hR:Stb R) (n:Nat) (s:ByteArray) (hs:s.size≤549755813888) (HI:ItemsR R p n s) (r c:Nat) (kmin B:Nat) (hcr:c≠r) (hn:s.size - kmin≤n):ClosC (isP R) (isR p) 11 141 99 r c s kmin B:=by
 intro w k0 h hk0 hkm hc _
 have hcl:=World.block_lt_of_cell? _ _ hc
 have hrl:=ae h
 have hcg:c≠w.heap.size:=Nat.ne_of_lt hcl
 have I0:Inv 53 99 r c w.heap.size s w (w.heap.size + 1) k0 0 #[.int .i64 0,.int .i64 0,.int .i64 0,.string ⟨#[]⟩,.slice none 0 0,.int .i64 0,.int .i64 0,.slice none 0 0,.slice none 0 0,.slice none 0 0,.slice none 0 0] (w.alloc (.cells #[.int .i64 0,.int .i64 0,.int .i64 0,.string ⟨#[]⟩,.slice none 0 0,.int .i64 0,.int .i64 0,.slice none 0 0,.slice none 0 0,.slice none 0 0,.slice none 0 0] 53)):=⟨h.alloc _,hk0,heap_alloc_new w _,(World.cell?_of_block (Below.heap_alloc _ _ _ hcl)).trans hc,ap (av w (some r)) _,by omega,hcr,hcg,Nat.le_refl _,by omega,by omega,by simp⟩
 have D0:(0:Int) = 0→s.size - k0 < n:=fun _ => by omega
 clear h hc
 go_enter Tryz.func141,Tryz.ntmps141
 go_upto_region 1 with fail
 refine ao (S:=fun w' => w'.cell? ⟨c,0,none⟩ = some (.pointer (some ⟨r,0,none⟩))) [(true,0),(true,2),(true,4),(false,1),(true,6),(false,3),(false,5),(false,7),(true,8),(false,9),(true,10),(false,11)] (by kernel_rfl) (by kernel_rfl) I0.drew.cap ?_
 replace I0:=I0.drew
 simp only [aO,List.getElem?_cons_succ,List.getElem?_cons_zero]
 refine sq2p r 0 ?_
 refine sq2p r 0 ?_
 refine sq2p r 0 ?_
 refine af 43 #[.pointer (some ⟨r,0,none⟩)] (by go_simp) ?_
 refine Calls.mono (az r k0 s 0 _ I0.rdr I0.le (by omega)) ?_
 rintro e w1 ⟨x1,k1,e1,rfl,hx1,h1,hg,hs1⟩
 have I1:=I0.call h1 hs1.1 hg
 clear I0 h1 hg
 have D1:=aN D0 hs1
 clear D0
 refine ⟨_,rfl,I1.cap,?_⟩
 simp only [Act.put,PutA,PutZ,PutS]
 refine sq2p (w.heap.size) 0 ?_
 refine af 43 #[.pointer (some ⟨r,0,none⟩)] (by go_simp) ?_
 refine Calls.mono (az r k1 s e1 _ I1.rdr I1.le (by omega)) ?_
 rintro e w2 ⟨x2,k2,e2,rfl,hx2,h2,hg,hs2⟩
 have I2:=I1.call h2 hs2.1 hg
 clear I1 h2 hg
 have D2:=aN D1 hs2
 clear D1
 refine ⟨_,rfl,I2.cap,?_⟩
 simp only [Act.put,PutA,PutZ,PutS]
 refine af 43 #[.pointer (some ⟨r,0,none⟩)] (by go_simp) ?_
 refine Calls.mono (az r k2 s e2 _ I2.rdr I2.le (by omega)) ?_
 rintro e w3 ⟨x3,k3,e3,rfl,hx3,h3,hg,hs3⟩
 have I3:=I2.call h3 hs3.1 hg
 clear I2 h3 hg
 have D3:=aN D2 hs3
 clear D2
 refine ⟨_,rfl,I3.cap,?_⟩
 simp only [Act.put,PutA,PutZ,PutS]
 refine aj 3 _ _ rfl rfl (w.heap.size) 0 53 _ #[.int .i64 x1,.int .i64 0,.int .i64 0,.string ⟨#[]⟩,.slice none 0 0,.int .i64 0,.int .i64 0,.slice none 0 0,.slice none 0 0,.slice none 0 0,.slice none 0 0] [.int .i64 x1] rfl rfl I3.blk sz3 (one1 rfl) rfl (by simp) ?_
 intro w' hb hg
 replace I3:=I3.store hb hg
 clear hb hg
 refine ⟨I3.cap,?_⟩
 refine sq2p (w.heap.size) 1 ?_
 refine aj 3 _ _ rfl rfl (w.heap.size) 1 53 _ #[.int .i64 x1,.int .i64 x2,.int .i64 0,.string ⟨#[]⟩,.slice none 0 0,.int .i64 0,.int .i64 0,.slice none 0 0,.slice none 0 0,.slice none 0 0,.slice none 0 0] [.int .i64 x2] rfl rfl I3.blk sz3 (one1 rfl) rfl (by simp) ?_
 intro w' hb hg
 replace I3:=I3.store hb hg
 clear hb hg
 refine ⟨I3.cap,?_⟩
 refine sq2p (w.heap.size) 2 ?_
 refine aj 3 _ _ rfl rfl (w.heap.size) 2 53 _ #[.int .i64 x1,.int .i64 x2,.int .i64 x3,.string ⟨#[]⟩,.slice none 0 0,.int .i64 0,.int .i64 0,.slice none 0 0,.slice none 0 0,.slice none 0 0,.slice none 0 0] [.int .i64 x3] rfl rfl I3.blk sz3 (one1 rfl) rfl (by simp) ?_
 intro w' hb hg
 replace I3:=I3.store hb hg
 clear hb hg
 refine ⟨I3.cap,?_⟩
 refine ad ?_
 go_upto_region 2 with fail
 refine ao (S:=fun w' => w'.cell? ⟨c,0,none⟩ = some (.pointer (some ⟨r,0,none⟩))) [(true,0),(true,2),(true,4),(true,6),(false,1),(true,8),(false,3),(false,5),(false,7),(false,9),(true,10),(false,11),(true,12),(false,13),(true,14),(false,15)] (by kernel_rfl) (by kernel_rfl) I3.drew.cap ?_
 replace I3:=I3.drew
 simp only [aO,List.getElem?_cons_succ,List.getElem?_cons_zero]
 refine sq2p r 0 ?_
 refine sq2p r 0 ?_
 refine sq2p r 0 ?_
 refine sq2p r 0 ?_
 refine af 142 #[.pointer (some ⟨r,0,none⟩)] (by go_simp) ?_
 refine Calls.mono (text142 r k3 s e3 _ I3.rdr I3.le (by omega)) ?_
 rintro e w4 ⟨x4,k4,e4,rfl,hx4,h4,hg,hs4⟩
 have I4:=I3.call h4 hs4.1 hg
 clear I3 h4 hg
 have D4:=aN D3 hs4
 clear D3
 refine ⟨_,rfl,I4.cap,?_⟩
 simp only [Act.put,PutA,PutZ,PutS]
 refine sq2p (w.heap.size) 3 ?_
 refine af 91 #[.pointer (some ⟨r,0,none⟩)] (by go_simp) ?_
 refine Calls.mono (rd91 r k4 s e4 _ I4.rdr I4.le hs) ?_
 rintro e w5 ⟨vs5,x5,k5,e5,rfl,hl5,ho5,hR5,h5,hg,hs5⟩
 obtain ⟨u5_0,u5_1,u5_2,u5_3,u5_4,rfl⟩:=len_5 hl5
 have F5:=Stb.since ay hR5 I4.aw
 clear hR5
 have I5:=I4.call h5 hs5.1 hg
 clear I4 h5 hg
 have D5:=aN D4 hs5
 clear D4
 refine ⟨_,rfl,I5.cap,?_⟩
 simp only [Act.put,PutA,PutZ,PutS]
 refine af 65 #[.pointer (some ⟨r,0,none⟩)] (by go_simp) ?_
 refine Calls.mono (HI r k5 e5 _ I5.rdr I5.le D5) ?_
 rintro e w6 ⟨v6,x6,k6,e6,rfl,hR6,h6,hg,hs6⟩
 obtain ⟨A6,c6,hv6,_,_⟩:=hR6.shape
 subst hv6
 replace F5:=Stb.grow ay hg (I5.ra) F5
 have F6:=Slv.since hR hR6 I5.aw
 clear hR6
 have I6:=I5.call h6 hs6.1 hg
 clear I5 h6 hg
 have D6:=aN D5 hs6
 clear D5
 refine ⟨_,rfl,I6.cap,?_⟩
 simp only [Act.put,PutA,PutZ,PutS]
 refine af 81 #[.pointer (some ⟨r,0,none⟩)] (by go_simp) ?_
 refine Calls.mono (rd81 R p hR n s hs HI r k6 e6 _ I6.rdr I6.le D6) ?_
 rintro e w7 ⟨v7,x7,k7,e7,rfl,hR7,h7,hg,hs7⟩
 obtain ⟨A7,c7,hv7,_,_⟩:=hR7.shape
 subst hv7
 replace F5:=Stb.grow ay hg (I6.ra) F5
 replace F6:=Slv.grow hR F6 hg (I6.ra)
 have F7:=Slv.since (bs hR) hR7 I6.aw
 clear hR7
 have I7:=I6.call h7 hs7.1 hg
 clear I6 h7 hg
 have D7:=aN D6 hs7
 clear D6
 refine ⟨_,rfl,I7.cap,?_⟩
 simp only [Act.put,PutA,PutZ,PutS]
 refine aj 9 _ _ rfl rfl (w.heap.size) 3 53 _ #[.int .i64 x1,.int .i64 x2,.int .i64 x3,.string x4,.slice none 0 0,.int .i64 0,.int .i64 0,.slice none 0 0,.slice none 0 0,.slice none 0 0,.slice none 0 0] [.string x4] rfl rfl I7.blk sz9 (one1 rfl) rfl (by simp) ?_
 intro w' hb hg
 replace F5:=Stb.grow ay hg (I7.ga) F5
 replace F6:=Slv.grow hR F6 hg (I7.ga)
 replace F7:=Slv.grow (bs hR) F7 hg (I7.ga)
 replace I7:=I7.store hb hg
 clear hb hg
 refine ⟨I7.cap,?_⟩
 refine sq2p (w.heap.size) 4 ?_
 refine aj 40 _ _ rfl rfl (w.heap.size) 4 53 _ #[.int .i64 x1,.int .i64 x2,.int .i64 x3,.string x4,u5_0,u5_1,u5_2,u5_3,u5_4,.slice none 0 0,.slice none 0 0] [u5_0,u5_1,u5_2,u5_3,u5_4] rfl rfl I7.blk sz40 (by first | assumption | simp [Value.oneCell']) rfl (by simp) ?_
 intro w' hb hg
 replace F5:=Stb.grow ay hg (I7.ga) F5
 replace F6:=Slv.grow hR F6 hg (I7.ga)
 replace F7:=Slv.grow (bs hR) F7 hg (I7.ga)
 replace I7:=I7.store hb hg
 clear hb hg
 refine ⟨I7.cap,?_⟩
 refine sq2p (w.heap.size) 9 ?_
 refine aj 33 _ _ rfl rfl (w.heap.size) 9 53 _ #[.int .i64 x1,.int .i64 x2,.int .i64 x3,.string x4,u5_0,u5_1,u5_2,u5_3,u5_4,.slice A6 x6.length c6,.slice none 0 0] [.slice A6 x6.length c6] rfl rfl I7.blk sz33 (one1 rfl) rfl (by simp) ?_
 intro w' hb hg
 replace F5:=Stb.grow ay hg (I7.ga) F5
 replace F6:=Slv.grow hR F6 hg (I7.ga)
 replace F7:=Slv.grow (bs hR) F7 hg (I7.ga)
 replace I7:=I7.store hb hg
 clear hb hg
 refine ⟨I7.cap,?_⟩
 refine sq2p (w.heap.size) 10 ?_
 refine aj 51 _ _ rfl rfl (w.heap.size) 10 53 _ #[.int .i64 x1,.int .i64 x2,.int .i64 x3,.string x4,u5_0,u5_1,u5_2,u5_3,u5_4,.slice A6 x6.length c6,.slice A7 x7.length c7] [.slice A7 x7.length c7] rfl rfl I7.blk sz51 (one1 rfl) rfl (by simp) ?_
 intro w' hb hg
 replace F5:=Stb.grow ay hg (I7.ga) F5
 replace F6:=Slv.grow hR F6 hg (I7.ga)
 replace F7:=Slv.grow (bs hR) F7 hg (I7.ga)
 replace I7:=I7.store hb hg
 clear hb hg
 refine ⟨I7.cap,?_⟩
 refine ad ?_
 have FR:isP R _ (aB (w.heap.size + 1) _) [.int .i64 x1,.int .i64 x2,.int .i64 x3,.string x4,u5_0,u5_1,u5_2,u5_3,u5_4,.slice A6 x6.length c6,.slice A7 x7.length c7] (x1,x2,x3,x4,x5,x6,x7):=⟨_,_,_,_,_,_,_,rfl,⟨hx1,hx2,hx3,Nat.le_trans hx4 (by omega)⟩,F5,F6,F7⟩
 clear F5 F6 F7
 have hone:=one_is _ _ _ _ FR
 go_upto_region 3 with fail
 refine ac (by rfl) ?_
 simp only [List.map]
 refine ar 53 _ rfl (w.heap.size) 53 #[.int .i64 x1,.int .i64 x2,.int .i64 x3,.string x4,u5_0,u5_1,u5_2,u5_3,u5_4,.slice A6 x6.length c6,.slice A7 x7.length c7] _ rfl I7.blk Tryz.underlying53 rfl size53 trivial ?_
 simp only [Act.put,PutA,PutZ,PutS]
 refine as_ 53 _ _ rfl rfl (w.heap.size) 53 _ [.int .i64 x1,.int .i64 x2,.int .i64 x3,.string x4,u5_0,u5_1,u5_2,u5_3,u5_4,.slice A6 x6.length c6,.slice A7 x7.length c7] rfl rfl I7.blk size53 hone rfl ?_
 intro w' hb hg
 replace FR:=Stb.grow (stb_is hR) hg (I7.ga) FR
 replace I7:=I7.store hb hg
 clear hb hg
 refine ⟨trivial,?_⟩
 refine ad ?_
 go_wp2_with fail
 refine bodyPost_ret (v:=.agg #[.int .i64 x1,.int .i64 x2,.int .i64 x3,.string x4,u5_0,u5_1,u5_2,u5_3,u5_4,.slice A6 x6.length c6,.slice A7 x7.length c7]) (results_cell_row rfl _ _ (w.heap.size) 53 #[.int .i64 x1,.int .i64 x2,.int .i64 x3,.string x4,u5_0,u5_1,u5_2,u5_3,u5_4,.slice A6 x6.length c6,.slice A7 x7.length c7] (0,0) _ rfl I7.blk Tryz.underlying53 rfl size53) rfl ?_
 exact ⟨[.int .i64 x1,.int .i64 x2,.int .i64 x3,.string x4,u5_0,u5_1,u5_2,u5_3,u5_4,.slice A6 x6.length c6,.slice A7 x7.length c7],(x1,x2,x3,x4,x5,x6,x7),k7,e7,rfl,rfl,hone,Stb.since (stb_is hR) FR (by omega),I7.rdr,I7.grown,(hs1.seq (hs2.seq (hs3.seq (hs4.seq (hs5.seq (hs6.seq hs7))))))⟩
theorem rd65 {α:Type} (R:Rp α) (p:Rd α) (hR:Stb R) (s:ByteArray) (hs:s.size≤549755813888) (r k0:Nat) (e0:Int) (w:World) (h:Rdr 99 r s k0 e0 w) (hk0:k0≤s.size) (HC:e0 = 0→∀ c B,c≠r→ClosC R p 11 141 99 r c s k0 B) :
  Calls Tryz.prog 65 #[.pointer (some ⟨r,0,none⟩)] w (bq R p 11 99 r s k0 e0 w):=by
 have hrw:=ae h
 have hcr:w.heap.size≠r:=by omega
 have C:=qH (get140 R p hR r w.heap.size k0 s e0 (w.alloc (.cells #[.pointer (some ⟨r,0,none⟩)] 97)) (h.alloc _) hk0 hs (aa (heap_alloc_new w _) 0) hcr (fun h0 => HC h0 _ _ hcr))
 clear h
 go_enter Tryz.func65,Tryz.ntmps65
 go_wp2_with fail
 refine C.out.mono ?_
 rintro e w1 hl
 have HL:=qH (hl.up _ hR)
 obtain ⟨v,l,k',e2,rfl,_⟩:=hl
 clear C
 go_wp2_with fail
 go_ret
 exact HL.out
theorem rd_items (s:ByteArray) (hs:s.size≤549755813888):∀ n,ItemsR (itP n) (itR n) n s
 | 0 => fun r k e w h hk hn => rd65 (itP 0) (itR 0) (aV 0) s hs r k e w h hk (fun h0 => by have:=hn h0; omega)
 | n + 1 => fun r k e w h hk hn => rd65 (itP (n + 1)) (itR (n + 1)) (aV (n + 1)) s hs r k e w h hk (fun h0 c B hcr => clos141 (itP n) (itR n) (aV n) n s hs (rd_items s hs n) r c k B hcr (by have:=hn h0; omega))
end Go.Proofs.YtmhhcfceikcfbaaGreat
namespace Go.Proofs.YtmhhcfceikcfbaaGreat
open Go.RowKit
set_option maxRecDepth 100000
set_option maxHeartbeats 4000000
def PtrS (p g:Nat) (w:World):Prop:=p < w.heap.size∧∀ i,i < 10→w.cell? ⟨p,i,none⟩ = some (.pointer (some ⟨g,i,none⟩))
theorem PtrS.grow {p g q:Nat} {w w':World} (h:PtrS p g w) (hg:w.grownBy w' (some q)) (hq:p≠q):PtrS p g w' :=
 ⟨Nat.lt_of_lt_of_le h.1 hg.size,fun i hi => (World.cell?_of_block (a:=⟨p,i,none⟩) (hg.block p h.1 (fun e => hq (by injection e)))).trans (h.2 i hi)⟩
end Go.Proofs.YtmhhcfceikcfbaaGreat
namespace Go.Proofs.YtmhhcfceikcfbaaGreat
open Go.RowKit
set_option maxRecDepth 100000
set_option maxHeartbeats 4000000
theorem lr27_none (s:ByteArray) (hs:s.size≤549755813888) (r k0:Nat) (e0:Int) (w:World) (h:Rdr 30 r s k0 e0 w) (hk0:k0≤s.size) (hn:e0 = 0→False) :
  Calls Tryz.prog 27 #[.pointer (some ⟨r,0,none⟩)] w (bq (itP 0) (itR 0) 11 30 r s k0 e0 w):=by
 have C:=qH (size73 r k0 s e0 w h hk0 (by omega))
 clear h
 go_enter Tryz.func27,Tryz.ntmps27
 go_wp2_with fail
 refine C.out.mono ?_
 rintro e w1 ⟨m,k1,e1,rfl,hkm,hn0,hr,hg,hsz⟩
 have he:e1≠0:=fun q => hn (by subst q; exact hsz.szPos.1)
 have hm:m = 0:=hn0 he
 subst hm
 have HL:Hid (bq (itP 0) (itR 0) 11 30 r s k0 e0 w (.returned (.slice none 0 0)) w1):=qH ⟨_,[],k1,e1,rfl,Slv.nil _ _,hr,hg,hsz.list (Res.many0 _ _ _ _ hsz.1)⟩
 clear C hr hg hsz hn0 hkm he
 go_wp2_with fail
 go_loopw [3,4] (fun ov nv wr => ov = .slice none 0 0∧nv = .int .i64 0∧wr = w1) (fun _ _ _ => 0)
 case atStart => exact ⟨rfl,rfl,rfl⟩
 obtain ⟨rfl,rfl,rfl⟩:=hrel
 go_wp2_with fail
 go_ret
 exact HL.out
theorem lr_items (s:ByteArray) (hs:s.size≤549755813888):∀ n,LItemsR (itP n) (itR n) n s
 | 0 => fun r k e w h hk hn => lr27_none s hs r k e w h hk (fun h0 => by have:=hn h0; omega)
 | n + 1 => fun r k e w h hk hn => lr27_step (itP n) (itR n) (aV n) n s hs (lr_items s hs n) r k e w h hk hn
end Go.Proofs.YtmhhcfceikcfbaaGreat
namespace Go.Proofs.YtmhhcfceikcfbaaGreat
open Go.RowKit
set_option maxRecDepth 100000
set_option maxHeartbeats 4000000
def StrE (w:World) (L:List Nat) (e:Ending) (w':World):Prop:=e = .returned (.string (mkB L))∧Below w.heap.size w w'
theorem mkB_size (a:List Nat):(mkB a).size = a.length:=by
 show (mkB a).data.size = _
 simp [mkB]
end Go.Proofs.YtmhhcfceikcfbaaGreat
namespace Go.Proofs.YtmhhcfceikcfbaaGreat
open Go.RowKit
set_option maxRecDepth 100000
set_option maxHeartbeats 4000000
theorem Rp.below {α:Type} {R:Rp α} (hR:Stb R) {w w':World} {G:Nat→Prop} {vs:List Value} {x:α} {B:Nat} (h:R w G vs x) (hG:∀ b,G b→b < B) (hb:Below B w w'):R w' G vs x :=
 hR _ _ _ _ _ _ (fun _ h => h) (fun b hg _ => hb.block b (hG b hg)) h
end Go.Proofs.YtmhhcfceikcfbaaGreat
namespace Go.Proofs.YtmhhcfceikcfbaaGreat
open Go.RowKit
set_option maxRecDepth 100000
set_option maxHeartbeats 4000000
def EltS (b o:Nat) (vs:List Value) (w:World):Prop:=∀ (j:Nat) (u:Value),vs[j]? = some u→w.cell? ⟨b,o + j,none⟩ = some u
theorem EltS.below {b o:Nat} {vs:List Value} {w w':World} {B:Nat} (h:EltS b o vs w) (hb:b < B) (hk:Below B w w'):EltS b o vs w' :=
 fun j u hu => (hk.cell (p:=⟨b,o + j,none⟩) hb).trans (h j u hu)
theorem EltS.alloc {b o:Nat} {vs:List Value} {w:World} (h:EltS b o vs w) (hb:b < w.heap.size) (ob:Obj):EltS b o vs (w.alloc ob) :=
 h.below hb ((Below.refl _ _).alloc (Nat.le_refl _) ob)
theorem EltS.drew {b o:Nat} {vs:List Value} {w:World} (h:EltS b o vs w):EltS b o vs w.drew:=h
end Go.Proofs.YtmhhcfceikcfbaaGreat
