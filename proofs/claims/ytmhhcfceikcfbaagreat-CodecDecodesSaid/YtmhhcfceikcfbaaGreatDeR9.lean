/- Walks: the readers that hand a closure on. -/
import Derived.Test.YtmhhcfceikcfbaaGreatDeR8
import Derived.Test.YtmhhcfceikcfbaaGreatDeW7
namespace Go.Proofs.YtmhhcfceikcfbaaGreat
open Go.RowKit
set_option maxRecDepth 100000
set_option maxHeartbeats 4000000
theorem sz35:(Tryz.prog.info? 35).map (·.size) = some 1:=by kernel_rfl
theorem sz36:(Tryz.prog.info? 36).map (·.size) = some 1:=by kernel_rfl
theorem sz41:(Tryz.prog.info? 41).map (·.size) = some 1:=by kernel_rfl
theorem sz42:(Tryz.prog.info? 42).map (·.size) = some 1:=by kernel_rfl
theorem sz43:(Tryz.prog.info? 43).map (·.size) = some 1:=by kernel_rfl
theorem sz44:(Tryz.prog.info? 44).map (·.size) = some 1:=by kernel_rfl
theorem sz45:(Tryz.prog.info? 45).map (·.size) = some 1:=by kernel_rfl
theorem sz108:(Tryz.prog.info? 108).map (·.size) = some 1:=by kernel_rfl
theorem sz47:(Tryz.prog.info? 47).map (·.size) = some 4:=by kernel_rfl
theorem size40:(Tryz.prog.info? 40).map (·.size) = some 5:=sz40
theorem size47:(Tryz.prog.info? 47).map (·.size) = some 4:=sz47
theorem grown_wide {a b b':World} {r:Nat} (o:Obj) (h:a.grownBy b (some r)) (g:(b.alloc o).grownBy b' (some r)):a.grownBy b' (some r):=an (ap h o) g
theorem bq.up {α:Type} {R:Rp α} {p:Rd α} {sz ty r k0:Nat} {s:ByteArray} {e0:Int} {w w':World} {e:Ending} (o:Obj) (hR:Stb R) (h:bq R p sz ty r s k0 e0 (w.alloc o) e w'):bq R p sz ty r s k0 e0 w e w':=by
 obtain ⟨v,l,k',e2,he,hsl,hr,hg,hres⟩:=h
 refine ⟨v,l,k',e2,he,hsl.stb hR (fun b hb => ⟨?_,hb.2⟩) (fun b _ _ => rfl),hr,grown_wide o (av w (some r)) hg,hres⟩
 have:=hb.1
 simp at this
 omega
theorem rd157 (r k0:Nat) (s:ByteArray) (e0:Int) (w:World) (h:Rdr 99 r s k0 e0 w) (hk0:k0≤s.size) (hs:s.size≤549755813888) :
  Calls Tryz.prog 157 #[.pointer (some ⟨r,0,none⟩)] w (bq twoP twoR 2 99 r s k0 e0 w):=by
 have hrw:=ae h
 have hcr:w.heap.size≠r:=by omega
 have C:=qH (get198 twoP twoR am r w.heap.size k0 s e0 (w.alloc (.cells #[.pointer (some ⟨r,0,none⟩)] 97)) (h.alloc _) hk0 hs (aa (heap_alloc_new w _) 0) hcr (fun _ => clos199_any r _ s _ _ hs hcr))
 clear h
 go_enter Tryz.func157,Tryz.ntmps157
 go_wp2_with fail
 refine C.out.mono ?_
 rintro e w1 hl
 have HL:=qH (hl.up _ am)
 obtain ⟨v,l,k',e2,rfl,_⟩:=hl
 clear C
 go_wp2_with fail
 go_ret
 exact HL.out
theorem rd92 (r k0:Nat) (s:ByteArray) (e0:Int) (w:World) (h:Rdr 99 r s k0 e0 w) (hk0:k0≤s.size) (hs:s.size≤549755813888) :
  Calls Tryz.prog 92 #[.pointer (some ⟨r,0,none⟩)] w (bq revP revR 3 99 r s k0 e0 w):=by
 have hrw:=ae h
 have hcr:w.heap.size≠r:=by omega
 have C:=qH (get171 revP revR bg r w.heap.size k0 s e0 (w.alloc (.cells #[.pointer (some ⟨r,0,none⟩)] 97)) (h.alloc _) hk0 hs (aa (heap_alloc_new w _) 0) hcr (fun _ => clos172 r _ s _ _ hs hcr))
 clear h
 go_enter Tryz.func92,Tryz.ntmps92
 go_wp2_with fail
 refine C.out.mono ?_
 rintro e w1 hl
 have HL:=qH (hl.up _ bg)
 obtain ⟨v,l,k',e2,rfl,_⟩:=hl
 clear C
 go_wp2_with fail
 go_ret
 exact HL.out
end Go.Proofs.YtmhhcfceikcfbaaGreat
namespace Go.Proofs.YtmhhcfceikcfbaaGreat
open Go.RowKit
set_option maxRecDepth 100000
set_option maxHeartbeats 4000000
theorem lr75 (r k0:Nat) (s:ByteArray) (e0:Int) (w:World) (h:Rdr 30 r s k0 e0 w) (hk0:k0≤s.size) (hs:s.size≤549755813888) :
  Calls Tryz.prog 75 #[.pointer (some ⟨r,0,none⟩)] w (RecC hdP hdR 5 30 r s k0 e0 w):=by
 have hrl:=ae h
 have I0:InvN 40 30 r (w.heap.size + 1) s w (w.heap.size + 2) k0 e0 #[.slice none 0 0,.int .i64 0,.int .i64 0,.slice none 0 0,.slice none 0 0] ((w.alloc (.cells #[.slice none 0 0,.int .i64 0,.int .i64 0,.slice none 0 0,.slice none 0 0] 40)).alloc (.cells #[.slice none 0 0,.int .i64 0,.int .i64 0,.slice none 0 0,.slice none 0 0] 40)):=⟨(h.alloc _).alloc _,hk0,ah _ _ (by simp),ap (ap (av w (some r)) _) _,by omega,by omega,by omega,by omega,by simp⟩
 have HZ:((w.alloc (.cells #[.slice none 0 0,.int .i64 0,.int .i64 0,.slice none 0 0,.slice none 0 0] 40)).alloc (.cells #[.slice none 0 0,.int .i64 0,.int .i64 0,.slice none 0 0,.slice none 0 0] 40)).heap[w.heap.size]? = some (.cells #[.slice none 0 0,.int .i64 0,.int .i64 0,.slice none 0 0,.slice none 0 0] 40 (0,0)):=(Below.heap_alloc _ _ _ (by simp)).trans (heap_alloc_new w _)
 clear h
 go_enter Tryz.func75,Tryz.ntmps75
 go_upto_region 2 with fail
 refine ac (by rfl) ?_
 simp only [List.map]
 refine sq1p r 0 ?_
 refine af 146 #[.pointer (some ⟨r,0,none⟩)] (by go_simp) ?_
 refine Calls.mono (lr146 r k0 s e0 _ I0.rdr I0.le hs) ?_
 rintro e w1 ⟨v1,x1,k1,e1,rfl,hR1,h1,hg,hs1⟩
 obtain ⟨A1,c1,hv1,_,_⟩:=hR1.shape
 subst hv1
 replace HZ:=(hg.block _ (ae HZ) (fun q => by injection q with q; omega)).trans HZ
 have F1:=Slv.since am hR1 I0.aw
 clear hR1
 have I1:=I0.call h1 hs1.1 hg
 clear I0 h1 hg
 refine ⟨_,rfl,trivial,?_⟩
 simp only [Act.put,PutA,PutZ,PutS]
 refine sq1p (w.heap.size + 1) 0 ?_
 refine aj 34 _ _ rfl rfl (w.heap.size + 1) 0 40 _ #[.slice A1 x1.length c1,.int .i64 0,.int .i64 0,.slice none 0 0,.slice none 0 0] [.slice A1 x1.length c1] rfl rfl I1.blk sz34 (one1 rfl) rfl (by simp) ?_
 intro w' hb hg
 replace F1:=Slv.grow am F1 hg (I1.ga)
 replace HZ:=(hg.block _ (ae HZ) (fun q => by injection q with q; omega)).trans HZ
 replace I1:=I1.store hb hg
 clear hb hg
 refine ⟨trivial,ad ?_⟩
 go_upto_region 3 with fail
 refine ac (by rfl) ?_
 simp only [List.map]
 refine sq1p r 0 ?_
 refine af 17 #[.pointer (some ⟨r,0,none⟩)] (by go_simp) ?_
 refine Calls.mono (aD r k1 s e1 _ I1.rdr I1.le (by omega)) ?_
 rintro e w2 ⟨x2,k2,e2,rfl,hx2,h2,hg,hs2⟩
 replace F1:=Slv.grow am F1 hg (I1.ra)
 replace HZ:=(hg.block _ (ae HZ) (fun q => by injection q with q; omega)).trans HZ
 have I2:=I1.call h2 hs2.1 hg
 clear I1 h2 hg
 refine ⟨_,rfl,trivial,?_⟩
 simp only [Act.put,PutA,PutZ,PutS]
 refine sq1p (w.heap.size + 1) 1 ?_
 refine sq1p (w.heap.size + 1) 1 ?_
 refine aj 3 _ _ rfl rfl (w.heap.size + 1) 1 40 _ #[.slice A1 x1.length c1,.int .i64 x2,.int .i64 0,.slice none 0 0,.slice none 0 0] [.int .i64 x2] rfl rfl I2.blk sz3 (one1 rfl) rfl (by simp) ?_
 intro w' hb hg
 replace F1:=Slv.grow am F1 hg (I2.ga)
 replace HZ:=(hg.block _ (ae HZ) (fun q => by injection q with q; omega)).trans HZ
 replace I2:=I2.store hb hg
 clear hb hg
 refine ⟨trivial,ad ?_⟩
 go_upto_region 4 with fail
 refine ac (by rfl) ?_
 simp only [List.map]
 refine sq1p r 0 ?_
 refine af 17 #[.pointer (some ⟨r,0,none⟩)] (by go_simp) ?_
 refine Calls.mono (aD r k2 s e2 _ I2.rdr I2.le (by omega)) ?_
 rintro e w3 ⟨x3,k3,e3,rfl,hx3,h3,hg,hs3⟩
 replace F1:=Slv.grow am F1 hg (I2.ra)
 replace HZ:=(hg.block _ (ae HZ) (fun q => by injection q with q; omega)).trans HZ
 have I3:=I2.call h3 hs3.1 hg
 clear I2 h3 hg
 refine ⟨_,rfl,trivial,?_⟩
 simp only [Act.put,PutA,PutZ,PutS]
 refine sq1p (w.heap.size + 1) 1 ?_
 refine sq1p (w.heap.size + 1) 2 ?_
 refine aj 3 _ _ rfl rfl (w.heap.size + 1) 2 40 _ #[.slice A1 x1.length c1,.int .i64 x2,.int .i64 x3,.slice none 0 0,.slice none 0 0] [.int .i64 x3] rfl rfl I3.blk sz3 (one1 rfl) rfl (by simp) ?_
 intro w' hb hg
 replace F1:=Slv.grow am F1 hg (I3.ga)
 replace HZ:=(hg.block _ (ae HZ) (fun q => by injection q with q; omega)).trans HZ
 replace I3:=I3.store hb hg
 clear hb hg
 refine ⟨trivial,ad ?_⟩
 go_upto_region 5 with fail
 refine ac (by rfl) ?_
 simp only [List.map]
 refine sq1p r 0 ?_
 refine af 73 #[.pointer (some ⟨r,0,none⟩)] (by go_simp) ?_
 refine Calls.mono (size73 r k3 s e3 _ I3.rdr I3.le (by omega)) ?_
 rintro e w4 ⟨m1,k4,e4,rfl,hkm1,hn0,h4,hg,hsz1⟩
 replace F1:=Slv.grow am F1 hg (I3.ra)
 replace HZ:=(hg.block _ (ae HZ) (fun q => by injection q with q; omega)).trans HZ
 have I4:=I3.call h4 hsz1.1 hg
 clear I3 h4 hg hn0
 refine ⟨_,rfl,trivial,?_⟩
 simp only [Act.put,PutA,PutZ,PutS]
 refine sq1i (m1:Int) ?_
 refine ad ?_
 have hms1:m1≤s.size:=by omega
 have HS1:=qH hsz1
 obtain ⟨b1,hb1⟩:=gX (w4.heap.size)
 have hab1:w.heap.size + 2≤b1:=by rw [hb1]; exact I4.aw
 have F1b:=Slv.bet am F1
 rw [<- hb1] at F1b
 have HI0:Hid (LstI twoP 2 190 b1 (.slice none 0 0) [] w4):=qH (LstI.nil _ _ _ _ _)
 have HR0:Hid (InvN 40 30 r (w.heap.size + 1) s w (w.heap.size + 2) k4 e4 #[.slice A1 x1.length c1,.int .i64 x2,.int .i64 x3,.slice none 0 0,.slice none 0 0] w4∧b1≤w4.heap.size∧Res (aR twoR 0) s k4 e4 ([]:List Two) k4 e4∧w4.heap[w.heap.size]? = some (.cells #[.slice none 0 0,.int .i64 0,.int .i64 0,.slice none 0 0,.slice none 0 0] 40 (0,0))∧Slv twoP 2 w4 (Bet (w.heap.size + 2) b1) (.slice A1 x1.length c1) x1):=qH ⟨I4,by omega,Res.many0 _ _ _ _ I4.le,HZ,F1b⟩
 clear I4 HZ hsz1 hkm1 hb1 F1 F1b
 go_upto_block 0 with fail
 go_cut [] from 23 to 46 (fun wr => ∃ (k:Nat) (e:Int) (c:Nat) (A:Option Addr) (l:List Two),Hid (InvN 40 30 r (w.heap.size + 1) s w (w.heap.size + 2) k e #[.slice A1 x1.length c1,.int .i64 x2,.int .i64 x3,.slice A l.length c,.slice none 0 0] wr∧Res (be twoR) s k3 e3 l k e∧Slv twoP 2 wr (aB (w.heap.size + 2) wr) (.slice A l.length c) l∧wr.heap[w.heap.size]? = some (.cells #[.slice none 0 0,.int .i64 0,.int .i64 0,.slice none 0 0,.slice none 0 0] 40 (0,0))∧Slv twoP 2 wr (aB (w.heap.size + 2) wr) (.slice A1 x1.length c1) x1))
 case first =>
  go_wp2_with fail
  go_loopw [4] (fun nv wr => ∃ (i j k c:Nat) (e:Int) (A:Option Addr) (l:List Two),nv = .int .i64 (j:Int)∧i + j = m1∧l.length = i∧Hid (LstI twoP 2 190 b1 (.slice A i c) l wr)∧Hid (InvN 40 30 r (w.heap.size + 1) s w (w.heap.size + 2) k e #[.slice A1 x1.length c1,.int .i64 x2,.int .i64 x3,.slice A i c,.slice none 0 0] wr∧b1≤wr.heap.size∧Res (aR twoR i) s k4 e4 l k e∧wr.heap[w.heap.size]? = some (.cells #[.slice none 0 0,.int .i64 0,.int .i64 0,.slice none 0 0,.slice none 0 0] 40 (0,0))∧Slv twoP 2 wr (Bet (w.heap.size + 2) b1) (.slice A1 x1.length c1) x1)) (fun nv _ => (intOf nv).toNat)
  case atStart => exact ⟨0,m1,k4,0,e4,none,[],rfl,by omega,rfl,HI0,HR0⟩
  obtain ⟨i,j,k,c,e,A,l,rfl,hij,hil,HI,HR⟩:=hrel
  clear HI0 HR0
  obtain ⟨rc0,rc1,rc2,rf1,rf2⟩:=HR.out.1.rdr.cells
  by_cases hj:j = 0
  ·subst hj
   have hL:Hid (InvN 40 30 r (w.heap.size + 1) s w (w.heap.size + 2) k e #[.slice A1 x1.length c1,.int .i64 x2,.int .i64 x3,.slice A l.length c,.slice none 0 0] wr∧Res (be twoR) s k3 e3 l k e∧Slv twoP 2 wr (aB (w.heap.size + 2) wr) (.slice A l.length c) l∧wr.heap[w.heap.size]? = some (.cells #[.slice none 0 0,.int .i64 0,.int .i64 0,.slice none 0 0,.slice none 0 0] 40 (0,0))∧Slv twoP 2 wr (aB (w.heap.size + 2) wr) (.slice A1 x1.length c1) x1):=qH ⟨by have h:=HR.out.1; rw [hil]; exact h,HS1.out.list (by have h3:=HR.out.2.2.1; rw [show i = m1 by omega] at h3; exact h3),by have h:=(HI.out.slv am).since am hab1; rw [hil]; exact h,HR.out.2.2.2.1,Slv.unbet am HR.out.2.2.2.2 HR.out.2.1⟩
   clear HI HR HS1 hij
   go_wp2_with fail
   go_meet
   exact ⟨k,e,c,A,l,hL⟩
  have hj1:(0:Int) < (j:Int):=by omega
  have hj2:decide ((0:Int) < (j:Int)) = true:=by simpa using hj1
  have hj3:0 < j:=by omega
  rcases Int.decEq e 0 with he | he
  ·have d0:(e == 0) = false:=by simpa using he
   have hL:Hid (InvN 40 30 r (w.heap.size + 1) s w (w.heap.size + 2) k e #[.slice A1 x1.length c1,.int .i64 x2,.int .i64 x3,.slice A l.length c,.slice none 0 0] wr∧Res (be twoR) s k3 e3 l k e∧Slv twoP 2 wr (aB (w.heap.size + 2) wr) (.slice A l.length c) l∧wr.heap[w.heap.size]? = some (.cells #[.slice none 0 0,.int .i64 0,.int .i64 0,.slice none 0 0,.slice none 0 0] 40 (0,0))∧Slv twoP 2 wr (aB (w.heap.size + 2) wr) (.slice A1 x1.length c1) x1):=qH ⟨by have h:=HR.out.1; rw [hil]; exact h,HS1.out.list (HR.out.2.2.1.manyErr he (by omega)),by have h:=(HI.out.slv am).since am hab1; rw [hil]; exact h,HR.out.2.2.2.1,Slv.unbet am HR.out.2.2.2.2 HR.out.2.1⟩
   clear HI HR HS1 hij
   go_wp2_with fail
   go_meet
   exact ⟨k,e,c,A,l,hL⟩
  subst he
  obtain ⟨jj,hjj⟩:∃ jj,j = jj + 1:=⟨j - 1,by omega⟩
  have wj:IntKind.i64.wrap ((j:Int) - 1) = (jj:Int):=by rw [IntKind.wrap_i64] <;> omega
  have hk:k≤s.size:=HR.out.1.le
  have hbr:b1≤wr.heap.size:=HR.out.2.1
  have hra:r < w.heap.size + 2:=HR.out.1.ra
  have hga:w.heap.size + 1 < w.heap.size + 2:=HR.out.1.ga
  have Hjj:=qH hjj
  have hij2:i + jj + 1 = m1:=by omega
  clear hj hjj hij
  have hr0:=HR.out.1.rdr
  have hg0:=av wr (some r)
  go_upto_region 8 with fail
  refine ac (by rfl) ?_
  simp only [List.map]
  clear rc0 rc1 rf1 rf2 rc2
  refine sq1p r 0 ?_
  refine af 17 #[.pointer (some ⟨r,0,none⟩)] (by go_simp) ?_
  refine Calls.mono (aD r k s 0 _ hr0 hk (by omega)) ?_
  rintro e wd1 ⟨x1d,k1d,e1d,rfl,hx1d,hr1,hg,hs1d⟩
  replace hg0:=an hg0 hg
  have hk1d:k1d≤s.size:=hs1d.1
  clear hr0 hg
  refine ⟨_,rfl,trivial,?_⟩
  simp only [Act.put,PutA,PutZ,PutS]
  refine sq1i x1d ?_
  refine ad ?_
  have hI1:=HR.out.1.call hr1 hk1d hg0
  have HL1:=HI.out.grow am hg0 (Nat.lt_of_lt_of_le hra hab1)
  have hZ1:=(hg0.block _ (ae HR.out.2.2.2.1) (fun q => by injection q with q; omega)).trans HR.out.2.2.2.1
  have hF0:=Slv.bet_grow am HR.out.2.2.2.2 hg0 hra
  go_upto_region 9 with fail
  refine wp_region_tg (S:=fun w' => w'.cell? ⟨w.heap.size + 1,3,none⟩ = some (.slice A i c)) 8 [(0,0),(0,1),(1,2),(0,3),(0,4),(2,5),(0,6),(2,7),(3,8),(0,9),(0,10),(3,11)] (by kernel_rfl) (by kernel_rfl) (aa hI1.blk 3) ?_
  simp only [pickT,List.getElem?_cons_succ,List.getElem?_cons_zero]
  replace hI1:=hI1.drew
  replace HL1:=HL1.drew am
  replace hZ1:wd1.drew.heap[w.heap.size]? = _:=hZ1
  replace hF0:=Slv.bet_drew am hF0
  refine aW (.pointer (some ⟨w.heap.size + 1,1,none⟩)) (fun w' => by go_simp) ?_
  simp only [Act.put,PutA,PutZ,PutS]
  refine aW (.pointer (some ⟨w.heap.size + 1,3,none⟩)) (fun w' => by go_simp) ?_
  simp only [Act.put,PutA,PutZ,PutS]
  refine tg_load (.slice A i c) (fun w' hS => by go_simp) ?_
  simp only [Act.put,PutA,PutZ,PutS]
  refine aW (.int .i64 x1d) (fun w' => by go_simp) ?_
  simp only [Act.put,PutA,PutZ,PutS]
  refine aW (.pointer (some ⟨r,0,none⟩)) (fun w' => by go_simp) ?_
  simp only [Act.put,PutA,PutZ,PutS]
  refine tg_run ?_
  refine af 17 #[.pointer (some ⟨r,0,none⟩)] (by go_simp) ?_
  refine Calls.mono (aD r k1d s e1d _ hI1.rdr hI1.le (by omega)) ?_
  rintro e wd2 ⟨x2d,k2d,e2d,rfl,hx2d,hr2,hg,hs2d⟩
  replace hI1:=hI1.call hr2 hs2d.1 hg
  replace HL1:=HL1.grow am hg (Nat.lt_of_lt_of_le hra hab1)
  replace hZ1:=(hg.block _ (ae hZ1) (fun q => by injection q with q; omega)).trans hZ1
  replace hF0:=Slv.bet_grow am hF0 hg hra
  have hbw2:b1≤wd2.heap.size:=Nat.le_trans hbr (Nat.le_trans hg0.size hg.size)
  clear hr2 hg
  refine ⟨_,rfl,aa hI1.blk 3,ad ?_⟩
  show wpTg _ _ _ _ _ _
  simp only [Act.put,PutA,PutZ,PutS]
  refine aW (.agg #[.int .i64 x1d,.int .i64 x2d]) (fun w' => by go_simp) ?_
  simp only [Act.put,PutA,PutZ,PutS]
  refine tg_run ?_
  refine au (.slice (some ⟨wd2.heap.size,0,none⟩) 1 1) (wd2.alloc (.cells #[.int .i64 x1d,.int .i64 x2d] 190)) (by go_simp) (aa (hI1.alloc _).blk 3) (ad ?_)
  show wpTg _ _ _ _ _ _
  simp only [Act.put,PutA,PutZ,PutS]
  refine tg_late ?_
  refine sq_push am _ _ 35 16 wd2.heap.size 1 rfl rfl Tryz.underlying35 info190x (by decide) [.int .i64 x1d,.int .i64 x2d] (x1d,x2d) HL1 rfl rfl (by simp [Value.oneCell']) ⟨rfl,hx1d,hx2d⟩ (fun g hg => (HL1.own_ge g hg).2) hbw2 hbw2 rfl (by rw [hil]; omega) (by rw [hil]; omega) ?_
  intro v2 w2 hl2 hb2
  obtain ⟨Ax,c2x,hv2⟩:=hl2.shape
  rw [List.length_append,hil] at hv2
  subst hv2
  have hI2:=hI1.below hb2 hab1
  have hZ2:=(hb2.block _ (show w.heap.size < b1 by omega)).trans hZ1
  replace hF0:=Slv.bet_below am hF0 hb2
  have hbw3:=Nat.le_trans hbw2 hb2.size
  refine ⟨trivial,ad ?_⟩
  show wpTg _ _ _ _ _ _
  simp only [Act.put,PutA,PutZ,PutS]
  refine aW (.pointer (some ⟨w.heap.size + 1,1,none⟩)) (fun w' => by go_simp) ?_
  simp only [Act.put,PutA,PutZ,PutS]
  refine aW (.pointer (some ⟨w.heap.size + 1,3,none⟩)) (fun w' => by go_simp) ?_
  simp only [Act.put,PutA,PutZ,PutS]
  refine tg_late ?_
  refine aj 35 _ _ rfl rfl (w.heap.size + 1) 3 40 _ #[.slice A1 x1.length c1,.int .i64 x2,.int .i64 x3,.slice Ax (i + 1) c2x,.slice none 0 0] [.slice Ax (i + 1) c2x] rfl rfl hI2.blk sz35 (one1 rfl) rfl (by simp) ?_
  intro w3 hb hg
  replace hI2:=hI2.store hb hg
  replace hZ2:=(hg.block _ (ae hZ2) (fun q => by injection q with q; omega)).trans hZ2
  have HL3:Hid (LstI twoP 2 190 b1 (.slice Ax (i + 1) c2x) (l++[(x1d,x2d)]) w3):=qH (hl2.grow am hg (Nat.lt_of_lt_of_le hga hab1))
  replace hF0:=Slv.bet_grow am hF0 hg hga
  have HR3:Hid (InvN 40 30 r (w.heap.size + 1) s w (w.heap.size + 2) k2d e2d #[.slice A1 x1.length c1,.int .i64 x2,.int .i64 x3,.slice Ax (i + 1) c2x,.slice none 0 0] w3∧b1≤w3.heap.size∧Res (aR twoR (i + 1)) s k4 e4 (l++[(x1d,x2d)]) k2d e2d∧w3.heap[w.heap.size]? = some (.cells #[.slice none 0 0,.int .i64 0,.int .i64 0,.slice none 0 0,.slice none 0 0] 40 (0,0))∧Slv twoP 2 w3 (Bet (w.heap.size + 2) b1) (.slice A1 x1.length c1) x1):=qH ⟨hI2,Nat.le_trans hbw3 hg.size,HR.out.2.2.1.snoc (hs1d.seq hs2d),hZ2,hF0⟩
  refine ⟨trivial,ad ?_⟩
  show wpTg _ _ _ _ _ _
  refine tg_done ?_
  clear hl2 hb2 HL1 hI1 hI2 hZ1 hZ2 hg hb hg0 hF0
  clear HI HR
  go_wp2_with fail
  go_roundw
  case rel => exact ⟨i + 1,jj,k2d,c2x,e2d,Ax,l++[(x1d,x2d)],by go_num,by omega,by simp [hil],HL3,HR3⟩
  rw [Hjj.out]; simp [intOf]
 obtain ⟨k5,e5,c5,A5,x5,hH⟩:=hcut
 obtain ⟨I5,hs5,F5,HZ,F1⟩:=hH.out
 clear hH
 go_upto_region 10 with fail
 refine ac (by rfl) ?_
 simp only [List.map]
 refine sq1p r 0 ?_
 refine af 73 #[.pointer (some ⟨r,0,none⟩)] (by go_simp) ?_
 refine Calls.mono (size73 r k5 s e5 _ I5.rdr I5.le (by omega)) ?_
 rintro e w6 ⟨m2,k6,e6,rfl,hkm2,hn0,h6,hg,hsz2⟩
 replace F1:=Slv.grow am F1 hg (I5.ra)
 replace F5:=Slv.grow am F5 hg (I5.ra)
 replace HZ:=(hg.block _ (ae HZ) (fun q => by injection q with q; omega)).trans HZ
 have I6:=I5.call h6 hsz2.1 hg
 clear I5 h6 hg hn0
 refine ⟨_,rfl,trivial,?_⟩
 simp only [Act.put,PutA,PutZ,PutS]
 refine sq1i (m2:Int) ?_
 refine ad ?_
 have hms2:m2≤s.size:=by omega
 have HS2:=qH hsz2
 obtain ⟨b2,hb2⟩:=gX (w6.heap.size)
 have hab2:w.heap.size + 2≤b2:=by rw [hb2]; exact I6.aw
 have F1b:=Slv.bet am F1
 rw [<- hb2] at F1b
 have F5b:=Slv.bet am F5
 rw [<- hb2] at F5b
 have HI0:Hid (LstI layP 4 201 b2 (.slice none 0 0) [] w6):=qH (LstI.nil _ _ _ _ _)
 have HR0:Hid (InvN 40 30 r (w.heap.size + 1) s w (w.heap.size + 2) k6 e6 #[.slice A1 x1.length c1,.int .i64 x2,.int .i64 x3,.slice A5 x5.length c5,.slice none 0 0] w6∧b2≤w6.heap.size∧Res (aR layR 0) s k6 e6 ([]:List Lay) k6 e6∧w6.heap[w.heap.size]? = some (.cells #[.slice none 0 0,.int .i64 0,.int .i64 0,.slice none 0 0,.slice none 0 0] 40 (0,0))∧Slv twoP 2 w6 (Bet (w.heap.size + 2) b2) (.slice A1 x1.length c1) x1∧Slv twoP 2 w6 (Bet (w.heap.size + 2) b2) (.slice A5 x5.length c5) x5):=qH ⟨I6,by omega,Res.many0 _ _ _ _ I6.le,HZ,F1b,F5b⟩
 clear I6 HZ hsz2 hkm2 hb2 F1 F1b F5 F5b
 go_upto_block 2 with fail
 go_cut [] from 49 to 78 (fun wr => ∃ (k:Nat) (e:Int) (c:Nat) (A:Option Addr) (l:List Lay),Hid (InvN 40 30 r (w.heap.size + 1) s w (w.heap.size + 2) k e #[.slice A1 x1.length c1,.int .i64 x2,.int .i64 x3,.slice A5 x5.length c5,.slice A l.length c] wr∧Res (be layR) s k5 e5 l k e∧Slv layP 4 wr (aB (w.heap.size + 2) wr) (.slice A l.length c) l∧wr.heap[w.heap.size]? = some (.cells #[.slice none 0 0,.int .i64 0,.int .i64 0,.slice none 0 0,.slice none 0 0] 40 (0,0))∧Slv twoP 2 wr (aB (w.heap.size + 2) wr) (.slice A1 x1.length c1) x1∧Slv twoP 2 wr (aB (w.heap.size + 2) wr) (.slice A5 x5.length c5) x5))
 case first =>
  go_wp2_with fail
  go_loopw [6] (fun nv wr => ∃ (i j k c:Nat) (e:Int) (A:Option Addr) (l:List Lay),nv = .int .i64 (j:Int)∧i + j = m2∧l.length = i∧Hid (LstI layP 4 201 b2 (.slice A i c) l wr)∧Hid (InvN 40 30 r (w.heap.size + 1) s w (w.heap.size + 2) k e #[.slice A1 x1.length c1,.int .i64 x2,.int .i64 x3,.slice A5 x5.length c5,.slice A i c] wr∧b2≤wr.heap.size∧Res (aR layR i) s k6 e6 l k e∧wr.heap[w.heap.size]? = some (.cells #[.slice none 0 0,.int .i64 0,.int .i64 0,.slice none 0 0,.slice none 0 0] 40 (0,0))∧Slv twoP 2 wr (Bet (w.heap.size + 2) b2) (.slice A1 x1.length c1) x1∧Slv twoP 2 wr (Bet (w.heap.size + 2) b2) (.slice A5 x5.length c5) x5)) (fun nv _ => (intOf nv).toNat)
  case atStart => exact ⟨0,m2,k6,0,e6,none,[],rfl,by omega,rfl,HI0,HR0⟩
  obtain ⟨i,j,k,c,e,A,l,rfl,hij,hil,HI,HR⟩:=hrel
  clear HI0 HR0
  obtain ⟨rc0,rc1,rc2,rf1,rf2⟩:=HR.out.1.rdr.cells
  by_cases hj:j = 0
  ·subst hj
   have hL:Hid (InvN 40 30 r (w.heap.size + 1) s w (w.heap.size + 2) k e #[.slice A1 x1.length c1,.int .i64 x2,.int .i64 x3,.slice A5 x5.length c5,.slice A l.length c] wr∧Res (be layR) s k5 e5 l k e∧Slv layP 4 wr (aB (w.heap.size + 2) wr) (.slice A l.length c) l∧wr.heap[w.heap.size]? = some (.cells #[.slice none 0 0,.int .i64 0,.int .i64 0,.slice none 0 0,.slice none 0 0] 40 (0,0))∧Slv twoP 2 wr (aB (w.heap.size + 2) wr) (.slice A1 x1.length c1) x1∧Slv twoP 2 wr (aB (w.heap.size + 2) wr) (.slice A5 x5.length c5) x5):=qH ⟨by have h:=HR.out.1; rw [hil]; exact h,HS2.out.list (by have h3:=HR.out.2.2.1; rw [show i = m2 by omega] at h3; exact h3),by have h:=(HI.out.slv bD).since bD hab2; rw [hil]; exact h,HR.out.2.2.2.1,Slv.unbet am HR.out.2.2.2.2.1 HR.out.2.1,Slv.unbet am HR.out.2.2.2.2.2 HR.out.2.1⟩
   clear HI HR HS2 hij
   go_wp2_with fail
   go_meet
   exact ⟨k,e,c,A,l,hL⟩
  have hj1:(0:Int) < (j:Int):=by omega
  have hj2:decide ((0:Int) < (j:Int)) = true:=by simpa using hj1
  have hj3:0 < j:=by omega
  rcases Int.decEq e 0 with he | he
  ·have d0:(e == 0) = false:=by simpa using he
   have hL:Hid (InvN 40 30 r (w.heap.size + 1) s w (w.heap.size + 2) k e #[.slice A1 x1.length c1,.int .i64 x2,.int .i64 x3,.slice A5 x5.length c5,.slice A l.length c] wr∧Res (be layR) s k5 e5 l k e∧Slv layP 4 wr (aB (w.heap.size + 2) wr) (.slice A l.length c) l∧wr.heap[w.heap.size]? = some (.cells #[.slice none 0 0,.int .i64 0,.int .i64 0,.slice none 0 0,.slice none 0 0] 40 (0,0))∧Slv twoP 2 wr (aB (w.heap.size + 2) wr) (.slice A1 x1.length c1) x1∧Slv twoP 2 wr (aB (w.heap.size + 2) wr) (.slice A5 x5.length c5) x5):=qH ⟨by have h:=HR.out.1; rw [hil]; exact h,HS2.out.list (HR.out.2.2.1.manyErr he (by omega)),by have h:=(HI.out.slv bD).since bD hab2; rw [hil]; exact h,HR.out.2.2.2.1,Slv.unbet am HR.out.2.2.2.2.1 HR.out.2.1,Slv.unbet am HR.out.2.2.2.2.2 HR.out.2.1⟩
   clear HI HR HS2 hij
   go_wp2_with fail
   go_meet
   exact ⟨k,e,c,A,l,hL⟩
  subst he
  obtain ⟨jj,hjj⟩:∃ jj,j = jj + 1:=⟨j - 1,by omega⟩
  have wj:IntKind.i64.wrap ((j:Int) - 1) = (jj:Int):=by rw [IntKind.wrap_i64] <;> omega
  have hk:k≤s.size:=HR.out.1.le
  have hbr:b2≤wr.heap.size:=HR.out.2.1
  have hra:r < w.heap.size + 2:=HR.out.1.ra
  have hga:w.heap.size + 1 < w.heap.size + 2:=HR.out.1.ga
  have Hjj:=qH hjj
  have hij2:i + jj + 1 = m2:=by omega
  clear hj hjj hij
  have hr0:=HR.out.1.rdr
  have hg0:=av wr (some r)
  go_upto_region 13 with fail
  refine ac (by rfl) ?_
  simp only [List.map]
  clear rc0 rc1 rf1 rf2 rc2
  refine sq1p r 0 ?_
  refine af 17 #[.pointer (some ⟨r,0,none⟩)] (by go_simp) ?_
  refine Calls.mono (aD r k s 0 _ hr0 hk (by omega)) ?_
  rintro e wd1 ⟨x1d,k1d,e1d,rfl,hx1d,hr1,hg,hs1d⟩
  replace hg0:=an hg0 hg
  have hk1d:k1d≤s.size:=hs1d.1
  clear hr0 hg
  refine ⟨_,rfl,trivial,?_⟩
  simp only [Act.put,PutA,PutZ,PutS]
  refine sq1i x1d ?_
  refine ad ?_
  go_upto_region 14 with fail
  refine ac (by rfl) ?_
  simp only [List.map]
  refine sq1p r 0 ?_
  refine af 17 #[.pointer (some ⟨r,0,none⟩)] (by go_simp) ?_
  refine Calls.mono (aD r k1d s e1d _ hr1 hk1d (by omega)) ?_
  rintro e wd2 ⟨x2d,k2d,e2d,rfl,hx2d,hr2,hg,hs2d⟩
  replace hg0:=an hg0 hg
  have hk2d:k2d≤s.size:=hs2d.1
  clear hr1 hg
  refine ⟨_,rfl,trivial,?_⟩
  simp only [Act.put,PutA,PutZ,PutS]
  refine sq1i x2d ?_
  refine ad ?_
  go_upto_region 15 with fail
  refine ac (by rfl) ?_
  simp only [List.map]
  refine sq1p r 0 ?_
  refine af 17 #[.pointer (some ⟨r,0,none⟩)] (by go_simp) ?_
  refine Calls.mono (aD r k2d s e2d _ hr2 hk2d (by omega)) ?_
  rintro e wd3 ⟨x3d,k3d,e3d,rfl,hx3d,hr3,hg,hs3d⟩
  replace hg0:=an hg0 hg
  have hk3d:k3d≤s.size:=hs3d.1
  clear hr2 hg
  refine ⟨_,rfl,trivial,?_⟩
  simp only [Act.put,PutA,PutZ,PutS]
  refine sq1i x3d ?_
  refine ad ?_
  have hI1:=HR.out.1.call hr3 hk3d hg0
  have HL1:=HI.out.grow bD hg0 (Nat.lt_of_lt_of_le hra hab2)
  have hZ1:=(hg0.block _ (ae HR.out.2.2.2.1) (fun q => by injection q with q; omega)).trans HR.out.2.2.2.1
  have hF0:=Slv.bet_grow am HR.out.2.2.2.2.1 hg0 hra
  have hF1:=Slv.bet_grow am HR.out.2.2.2.2.2 hg0 hra
  go_upto_region 16 with fail
  refine wp_region_tg (S:=fun w' => w'.cell? ⟨w.heap.size + 1,4,none⟩ = some (.slice A i c)) 10 [(0,0),(0,1),(1,2),(0,3),(0,4),(0,5),(0,6),(2,7),(0,8),(2,9),(3,10),(0,11),(0,12),(3,13)] (by kernel_rfl) (by kernel_rfl) (aa hI1.blk 4) ?_
  simp only [pickT,List.getElem?_cons_succ,List.getElem?_cons_zero]
  replace hI1:=hI1.drew
  replace HL1:=HL1.drew bD
  replace hZ1:wd3.drew.heap[w.heap.size]? = _:=hZ1
  replace hF0:=Slv.bet_drew am hF0
  replace hF1:=Slv.bet_drew am hF1
  refine aW (.pointer (some ⟨w.heap.size + 1,1,none⟩)) (fun w' => by go_simp) ?_
  simp only [Act.put,PutA,PutZ,PutS]
  refine aW (.pointer (some ⟨w.heap.size + 1,4,none⟩)) (fun w' => by go_simp) ?_
  simp only [Act.put,PutA,PutZ,PutS]
  refine tg_load (.slice A i c) (fun w' hS => by go_simp) ?_
  simp only [Act.put,PutA,PutZ,PutS]
  refine aW (.int .i64 x1d) (fun w' => by go_simp) ?_
  simp only [Act.put,PutA,PutZ,PutS]
  refine aW (.int .i64 x2d) (fun w' => by go_simp) ?_
  simp only [Act.put,PutA,PutZ,PutS]
  refine aW (.int .i64 x3d) (fun w' => by go_simp) ?_
  simp only [Act.put,PutA,PutZ,PutS]
  refine aW (.pointer (some ⟨r,0,none⟩)) (fun w' => by go_simp) ?_
  simp only [Act.put,PutA,PutZ,PutS]
  refine tg_run ?_
  refine af 93 #[.pointer (some ⟨r,0,none⟩)] (by go_simp) ?_
  refine Calls.mono (flag93 r k3d s e3d _ hI1.rdr hI1.le (by omega)) ?_
  rintro e wd4 ⟨x4d,k4d,e4d,rfl,hr4,hg,hs4d⟩
  replace hI1:=hI1.call hr4 hs4d.1 hg
  replace HL1:=HL1.grow bD hg (Nat.lt_of_lt_of_le hra hab2)
  replace hZ1:=(hg.block _ (ae hZ1) (fun q => by injection q with q; omega)).trans hZ1
  replace hF0:=Slv.bet_grow am hF0 hg hra
  replace hF1:=Slv.bet_grow am hF1 hg hra
  have hbw2:b2≤wd4.heap.size:=Nat.le_trans hbr (Nat.le_trans hg0.size hg.size)
  clear hr4 hg
  refine ⟨_,rfl,aa hI1.blk 4,ad ?_⟩
  show wpTg _ _ _ _ _ _
  simp only [Act.put,PutA,PutZ,PutS]
  refine aW (.agg #[.int .i64 x1d,.int .i64 x2d,.int .i64 x3d,.bool x4d]) (fun w' => by go_simp) ?_
  simp only [Act.put,PutA,PutZ,PutS]
  refine tg_run ?_
  refine au (.slice (some ⟨wd4.heap.size,0,none⟩) 1 1) (wd4.alloc (.cells #[.int .i64 x1d,.int .i64 x2d,.int .i64 x3d,.bool x4d] 201)) (by go_simp) (aa (hI1.alloc _).blk 4) (ad ?_)
  show wpTg _ _ _ _ _ _
  simp only [Act.put,PutA,PutZ,PutS]
  refine tg_late ?_
  refine sq_push bD _ _ 36 32 wd4.heap.size 1 rfl rfl Tryz.underlying36 info201x (by decide) [.int .i64 x1d,.int .i64 x2d,.int .i64 x3d,.bool x4d] (x1d,x2d,x3d,x4d) HL1 rfl rfl (by simp [Value.oneCell']) ⟨rfl,hx1d,hx2d,hx3d,trivial⟩ (fun g hg => (HL1.own_ge g hg).2) hbw2 hbw2 rfl (by rw [hil]; omega) (by rw [hil]; omega) ?_
  intro v2 w2 hl2 hb2
  obtain ⟨Ax,c2x,hv2⟩:=hl2.shape
  rw [List.length_append,hil] at hv2
  subst hv2
  have hI2:=hI1.below hb2 hab2
  have hZ2:=(hb2.block _ (show w.heap.size < b2 by omega)).trans hZ1
  replace hF0:=Slv.bet_below am hF0 hb2
  replace hF1:=Slv.bet_below am hF1 hb2
  have hbw3:=Nat.le_trans hbw2 hb2.size
  refine ⟨trivial,ad ?_⟩
  show wpTg _ _ _ _ _ _
  simp only [Act.put,PutA,PutZ,PutS]
  refine aW (.pointer (some ⟨w.heap.size + 1,1,none⟩)) (fun w' => by go_simp) ?_
  simp only [Act.put,PutA,PutZ,PutS]
  refine aW (.pointer (some ⟨w.heap.size + 1,4,none⟩)) (fun w' => by go_simp) ?_
  simp only [Act.put,PutA,PutZ,PutS]
  refine tg_late ?_
  refine aj 36 _ _ rfl rfl (w.heap.size + 1) 4 40 _ #[.slice A1 x1.length c1,.int .i64 x2,.int .i64 x3,.slice A5 x5.length c5,.slice Ax (i + 1) c2x] [.slice Ax (i + 1) c2x] rfl rfl hI2.blk sz36 (one1 rfl) rfl (by simp) ?_
  intro w3 hb hg
  replace hI2:=hI2.store hb hg
  replace hZ2:=(hg.block _ (ae hZ2) (fun q => by injection q with q; omega)).trans hZ2
  have HL3:Hid (LstI layP 4 201 b2 (.slice Ax (i + 1) c2x) (l++[(x1d,x2d,x3d,x4d)]) w3):=qH (hl2.grow bD hg (Nat.lt_of_lt_of_le hga hab2))
  replace hF0:=Slv.bet_grow am hF0 hg hga
  replace hF1:=Slv.bet_grow am hF1 hg hga
  have HR3:Hid (InvN 40 30 r (w.heap.size + 1) s w (w.heap.size + 2) k4d e4d #[.slice A1 x1.length c1,.int .i64 x2,.int .i64 x3,.slice A5 x5.length c5,.slice Ax (i + 1) c2x] w3∧b2≤w3.heap.size∧Res (aR layR (i + 1)) s k6 e6 (l++[(x1d,x2d,x3d,x4d)]) k4d e4d∧w3.heap[w.heap.size]? = some (.cells #[.slice none 0 0,.int .i64 0,.int .i64 0,.slice none 0 0,.slice none 0 0] 40 (0,0))∧Slv twoP 2 w3 (Bet (w.heap.size + 2) b2) (.slice A1 x1.length c1) x1∧Slv twoP 2 w3 (Bet (w.heap.size + 2) b2) (.slice A5 x5.length c5) x5):=qH ⟨hI2,Nat.le_trans hbw3 hg.size,HR.out.2.2.1.snoc (hs1d.seq (hs2d.seq (hs3d.seq hs4d))),hZ2,hF0,hF1⟩
  refine ⟨trivial,ad ?_⟩
  show wpTg _ _ _ _ _ _
  refine tg_done ?_
  clear hl2 hb2 HL1 hI1 hI2 hZ1 hZ2 hg hb hg0 hF0 hF1
  clear HI HR
  go_wp2_with fail
  go_roundw
  case rel => exact ⟨i + 1,jj,k4d,c2x,e4d,Ax,l++[(x1d,x2d,x3d,x4d)],by go_num,by omega,by simp [hil],HL3,HR3⟩
  rw [Hjj.out]; simp [intOf]
 obtain ⟨k7,e7,c7,A7,x7,hH⟩:=hcut
 obtain ⟨I7,hs7,F7,HZ,F1,F5⟩:=hH.out
 clear hH
 have FR:hdP _ (aB (w.heap.size + 2) _) [.slice A1 x1.length c1,.int .i64 x2,.int .i64 x3,.slice A5 x5.length c5,.slice A7 x7.length c7] (x1,x2,x3,x5,x7):=⟨_,_,_,rfl,hx2,hx3,F1,F5,F7⟩
 have hone:=one_hd _ _ _ _ FR
 clear F1 F5 F7
 go_upto_region 17 with fail
 refine ac (by rfl) ?_
 simp only [List.map]
 refine ar 40 _ rfl (w.heap.size + 1) 40 #[.slice A1 x1.length c1,.int .i64 x2,.int .i64 x3,.slice A5 x5.length c5,.slice A7 x7.length c7] _ rfl I7.blk Tryz.underlying40 rfl size40 trivial ?_
 simp only [Act.put,PutA,PutZ,PutS]
 refine as_ 40 _ _ rfl rfl (w.heap.size) 40 _ [.slice A1 x1.length c1,.int .i64 x2,.int .i64 x3,.slice A5 x5.length c5,.slice A7 x7.length c7] rfl rfl HZ size40 hone rfl ?_
 intro w' hb hg
 have hR2:=Stb.grow ay hg (by omega) FR
 have hr2:=(hg.block r (ae I7.rdr) (fun q => by injection q with q; omega)).trans I7.rdr
 have hG2:w.grownBy w' (some r):=⟨hg.os.trans I7.grown.os,hg.tape.trans I7.grown.tape,hg.output.trans I7.grown.output,Nat.le_trans I7.grown.size hg.size,fun i hi hn => (hg.block i (Nat.lt_of_lt_of_le hi I7.grown.size) (fun q => by injection q with q; omega)).trans (I7.grown.block i hi hn)⟩
 refine ⟨trivial,ad ?_⟩
 clear hg
 go_wp2_with fail
 refine bodyPost_ret (v:=.agg #[.slice A1 x1.length c1,.int .i64 x2,.int .i64 x3,.slice A5 x5.length c5,.slice A7 x7.length c7]) (results_cell_row rfl _ _ (w.heap.size) 40 #[.slice A1 x1.length c1,.int .i64 x2,.int .i64 x3,.slice A5 x5.length c5,.slice A7 x7.length c7] (0,0) _ rfl hb Tryz.underlying40 rfl size40) rfl ?_
 exact ⟨[.slice A1 x1.length c1,.int .i64 x2,.int .i64 x3,.slice A5 x5.length c5,.slice A7 x7.length c7],(x1,x2,x3,x5,x7),k7,e7,rfl,rfl,hone,Stb.since ay hR2 (by omega),hr2,hG2,(hs1.seq (hs2.seq (hs3.seq (hs5.seq hs7))))⟩
end Go.Proofs.YtmhhcfceikcfbaaGreat
