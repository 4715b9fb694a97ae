/- Walks: the law's reader of settings. -/
import Derived.Test.YtmhhcfceikcfbaaGreatDeR10
namespace Go.Proofs.YtmhhcfceikcfbaaGreat
open Go.RowKit
set_option maxRecDepth 100000
set_option maxHeartbeats 4000000
theorem lr95 (r k0:Nat) (s:ByteArray) (e0:Int) (w:World) (h:Rdr 30 r s k0 e0 w) (hk0:k0≤s.size) (hs:s.size≤549755813888) :
  Calls Tryz.prog 95 #[.pointer (some ⟨r,0,none⟩)] w (RecC stgP stgR 4 30 r s k0 e0 w):=by
 have hrl:=ae h
 have I0:InvN 47 30 r (w.heap.size + 1) s w (w.heap.size + 2) k0 e0 #[.slice none 0 0,.slice none 0 0,.slice none 0 0,.slice none 0 0] ((w.alloc (.cells #[.slice none 0 0,.slice none 0 0,.slice none 0 0,.slice none 0 0] 47)).alloc (.cells #[.slice none 0 0,.slice none 0 0,.slice none 0 0,.slice none 0 0] 47)):=⟨(h.alloc _).alloc _,hk0,ah _ _ (by simp),ap (ap (av w (some r)) _) _,by omega,by omega,by omega,by omega,by simp⟩
 have HZ:((w.alloc (.cells #[.slice none 0 0,.slice none 0 0,.slice none 0 0,.slice none 0 0] 47)).alloc (.cells #[.slice none 0 0,.slice none 0 0,.slice none 0 0,.slice none 0 0] 47)).heap[w.heap.size]? = some (.cells #[.slice none 0 0,.slice none 0 0,.slice none 0 0,.slice none 0 0] 47 (0,0)):=(Below.heap_alloc _ _ _ (by simp)).trans (heap_alloc_new w _)
 clear h
 go_enter Tryz.func95,Tryz.ntmps95
 go_upto_region 2 with fail
 refine ac (by rfl) ?_
 simp only [List.map]
 refine sq1p r 0 ?_
 refine af 73 #[.pointer (some ⟨r,0,none⟩)] (by go_simp) ?_
 refine Calls.mono (size73 r k0 s e0 _ I0.rdr I0.le (by omega)) ?_
 rintro e w1 ⟨m1,k1,e1,rfl,hkm1,hn0,h1,hg,hsz1⟩
 replace HZ:=(hg.block _ (ae HZ) (fun q => by injection q with q; omega)).trans HZ
 have I1:=I0.call h1 hsz1.1 hg
 clear I0 h1 hg hn0
 refine ⟨_,rfl,trivial,?_⟩
 simp only [Act.put,PutA,PutZ,PutS]
 refine sq1i (m1:Int) ?_
 refine ad ?_
 have hms1:m1≤s.size:=by omega
 have HS1:=qH hsz1
 obtain ⟨b1,hb1⟩:=gX (w1.heap.size)
 have hab1:w.heap.size + 2≤b1:=by rw [hb1]; exact I1.aw
 have HI0:Hid (LstI styP 6 107 b1 (.slice none 0 0) [] w1):=qH (LstI.nil _ _ _ _ _)
 have HR0:Hid (InvN 47 30 r (w.heap.size + 1) s w (w.heap.size + 2) k1 e1 #[.slice none 0 0,.slice none 0 0,.slice none 0 0,.slice none 0 0] w1∧b1≤w1.heap.size∧Res (aR styR 0) s k1 e1 ([]:List Sty) k1 e1∧w1.heap[w.heap.size]? = some (.cells #[.slice none 0 0,.slice none 0 0,.slice none 0 0,.slice none 0 0] 47 (0,0))):=qH ⟨I1,by omega,Res.many0 _ _ _ _ I1.le,HZ⟩
 clear I1 HZ hsz1 hkm1 hb1 
 go_upto_block 0 with fail
 go_cut [] from 16 to 50 (fun wr => ∃ (k:Nat) (e:Int) (c:Nat) (A:Option Addr) (l:List Sty),Hid (InvN 47 30 r (w.heap.size + 1) s w (w.heap.size + 2) k e #[.slice A l.length c,.slice none 0 0,.slice none 0 0,.slice none 0 0] wr∧Res (be styR) s k0 e0 l k e∧Slv styP 6 wr (aB (w.heap.size + 2) wr) (.slice A l.length c) l∧wr.heap[w.heap.size]? = some (.cells #[.slice none 0 0,.slice none 0 0,.slice none 0 0,.slice none 0 0] 47 (0,0))))
 case first =>
  go_wp2_with fail
  go_loopw [4] (fun nv wr => ∃ (i j k c:Nat) (e:Int) (A:Option Addr) (l:List Sty),nv = .int .i64 (j:Int)∧i + j = m1∧l.length = i∧Hid (LstI styP 6 107 b1 (.slice A i c) l wr)∧Hid (InvN 47 30 r (w.heap.size + 1) s w (w.heap.size + 2) k e #[.slice A i c,.slice none 0 0,.slice none 0 0,.slice none 0 0] wr∧b1≤wr.heap.size∧Res (aR styR i) s k1 e1 l k e∧wr.heap[w.heap.size]? = some (.cells #[.slice none 0 0,.slice none 0 0,.slice none 0 0,.slice none 0 0] 47 (0,0)))) (fun nv _ => (intOf nv).toNat)
  case atStart => exact ⟨0,m1,k1,0,e1,none,[],rfl,by omega,rfl,HI0,HR0⟩
  obtain ⟨i,j,k,c,e,A,l,rfl,hij,hil,HI,HR⟩:=hrel
  clear HI0 HR0
  obtain ⟨rc0,rc1,rc2,rf1,rf2⟩:=HR.out.1.rdr.cells
  by_cases hj:j = 0
  ·subst hj
   have hL:Hid (InvN 47 30 r (w.heap.size + 1) s w (w.heap.size + 2) k e #[.slice A l.length c,.slice none 0 0,.slice none 0 0,.slice none 0 0] wr∧Res (be styR) s k0 e0 l k e∧Slv styP 6 wr (aB (w.heap.size + 2) wr) (.slice A l.length c) l∧wr.heap[w.heap.size]? = some (.cells #[.slice none 0 0,.slice none 0 0,.slice none 0 0,.slice none 0 0] 47 (0,0))):=qH ⟨by have h:=HR.out.1; rw [hil]; exact h,HS1.out.list (by have h3:=HR.out.2.2.1; rw [show i = m1 by omega] at h3; exact h3),by have h:=(HI.out.slv aF).since aF hab1; rw [hil]; exact h,HR.out.2.2.2⟩
   clear HI HR HS1 hij
   go_wp2_with fail
   go_meet
   exact ⟨k,e,c,A,l,hL⟩
  have hj1:(0:Int) < (j:Int):=by omega
  have hj2:decide ((0:Int) < (j:Int)) = true:=by simpa using hj1
  have hj3:0 < j:=by omega
  rcases Int.decEq e 0 with he | he
  ·have d0:(e == 0) = false:=by simpa using he
   have hL:Hid (InvN 47 30 r (w.heap.size + 1) s w (w.heap.size + 2) k e #[.slice A l.length c,.slice none 0 0,.slice none 0 0,.slice none 0 0] wr∧Res (be styR) s k0 e0 l k e∧Slv styP 6 wr (aB (w.heap.size + 2) wr) (.slice A l.length c) l∧wr.heap[w.heap.size]? = some (.cells #[.slice none 0 0,.slice none 0 0,.slice none 0 0,.slice none 0 0] 47 (0,0))):=qH ⟨by have h:=HR.out.1; rw [hil]; exact h,HS1.out.list (HR.out.2.2.1.manyErr he (by omega)),by have h:=(HI.out.slv aF).since aF hab1; rw [hil]; exact h,HR.out.2.2.2⟩
   clear HI HR HS1 hij
   go_wp2_with fail
   go_meet
   exact ⟨k,e,c,A,l,hL⟩
  subst he
  obtain ⟨jj,hjj⟩:∃ jj,j = jj + 1:=⟨j - 1,by omega⟩
  have wj:IntKind.i64.wrap ((j:Int) - 1) = (jj:Int):=by rw [IntKind.wrap_i64] <;> omega
  have hk:k≤s.size:=HR.out.1.le
  have hbr:b1≤wr.heap.size:=HR.out.2.1
  have hra:r < w.heap.size + 2:=HR.out.1.ra
  have hga:w.heap.size + 1 < w.heap.size + 2:=HR.out.1.ga
  have Hjj:=qH hjj
  have hij2:i + jj + 1 = m1:=by omega
  clear hj hjj hij
  have hrw2:r < wr.heap.size:=by omega
  have I0q:InvN 107 30 r wr.heap.size s wr (wr.heap.size + 1) k 0 #[.int .i64 0,.int .i64 0,.string ⟨#[]⟩,.int .i64 0,.int .i64 0,.slice none 0 0] (wr.alloc (.cells #[.int .i64 0,.int .i64 0,.string ⟨#[]⟩,.int .i64 0,.int .i64 0,.slice none 0 0] 107)):=⟨HR.out.1.rdr.alloc _,hk,heap_alloc_new wr _,ap (av wr (some r)) _,by omega,Nat.le_refl _,by omega,by omega,by simp⟩
  obtain ⟨k0q,hk_0⟩:=gX (k)
  rw [<- hk_0] at I0q
  clear rc0 rc1 rf1 rf2
  go_upto_region 6 with fail
  refine ac (by rfl) ?_
  simp only [List.map]
  refine sq1p r 0 ?_
  refine af 17 #[.pointer (some ⟨r,0,none⟩)] (by go_simp) ?_
  refine Calls.mono (aD r k0q s 0 _ I0q.rdr I0q.le (by omega)) ?_
  rintro e w1q ⟨x1q,k1q,e1q,rfl,hx1q,h1q,hg,hs1q⟩
  have I1q:=I0q.call h1q hs1q.1 hg
  clear I0q h1q hg
  refine ⟨_,rfl,trivial,?_⟩
  simp only [Act.put,PutA,PutZ,PutS]
  refine sq1p (wr.heap.size) 0 ?_
  refine aj 3 _ _ rfl rfl (wr.heap.size) 0 107 _ #[.int .i64 x1q,.int .i64 0,.string ⟨#[]⟩,.int .i64 0,.int .i64 0,.slice none 0 0] [.int .i64 x1q] rfl rfl I1q.blk sz3 (one1 rfl) rfl (by simp) ?_
  intro w' hb hg
  replace I1q:=I1q.store hb hg
  clear hb hg
  refine ⟨trivial,?_⟩
  refine ad ?_
  go_upto_region 7 with fail
  refine ac (by rfl) ?_
  simp only [List.map]
  refine sq1p r 0 ?_
  refine af 17 #[.pointer (some ⟨r,0,none⟩)] (by go_simp) ?_
  refine Calls.mono (aD r k1q s e1q _ I1q.rdr I1q.le (by omega)) ?_
  rintro e w2q ⟨x2q,k2q,e2q,rfl,hx2q,h2q,hg,hs2q⟩
  have I2q:=I1q.call h2q hs2q.1 hg
  clear I1q h2q hg
  refine ⟨_,rfl,trivial,?_⟩
  simp only [Act.put,PutA,PutZ,PutS]
  refine sq1p (wr.heap.size) 1 ?_
  refine aj 3 _ _ rfl rfl (wr.heap.size) 1 107 _ #[.int .i64 x1q,.int .i64 x2q,.string ⟨#[]⟩,.int .i64 0,.int .i64 0,.slice none 0 0] [.int .i64 x2q] rfl rfl I2q.blk sz3 (one1 rfl) rfl (by simp) ?_
  intro w' hb hg
  replace I2q:=I2q.store hb hg
  clear hb hg
  refine ⟨trivial,?_⟩
  refine ad ?_
  go_upto_region 8 with fail
  refine ac (by rfl) ?_
  simp only [List.map]
  refine sq1p r 0 ?_
  refine af 74 #[.pointer (some ⟨r,0,none⟩)] (by go_simp) ?_
  refine Calls.mono (text74 r k2q s e2q _ I2q.rdr I2q.le (by omega)) ?_
  rintro e w3q ⟨x3q,k3q,e3q,rfl,hx3q,h3q,hg,hs3q⟩
  have I3q:=I2q.call h3q hs3q.1 hg
  clear I2q h3q hg
  refine ⟨_,rfl,trivial,?_⟩
  simp only [Act.put,PutA,PutZ,PutS]
  refine sq1p (wr.heap.size) 2 ?_
  refine aj 9 _ _ rfl rfl (wr.heap.size) 2 107 _ #[.int .i64 x1q,.int .i64 x2q,.string x3q,.int .i64 0,.int .i64 0,.slice none 0 0] [.string x3q] rfl rfl I3q.blk sz9 (one1 rfl) rfl (by simp) ?_
  intro w' hb hg
  replace I3q:=I3q.store hb hg
  clear hb hg
  refine ⟨trivial,?_⟩
  refine ad ?_
  go_upto_region 9 with fail
  refine ac (by rfl) ?_
  simp only [List.map]
  refine sq1p r 0 ?_
  refine af 17 #[.pointer (some ⟨r,0,none⟩)] (by go_simp) ?_
  refine Calls.mono (aD r k3q s e3q _ I3q.rdr I3q.le (by omega)) ?_
  rintro e w4q ⟨x4q,k4q,e4q,rfl,hx4q,h4q,hg,hs4q⟩
  have I4q:=I3q.call h4q hs4q.1 hg
  clear I3q h4q hg
  refine ⟨_,rfl,trivial,?_⟩
  simp only [Act.put,PutA,PutZ,PutS]
  refine sq1p (wr.heap.size) 3 ?_
  refine aj 3 _ _ rfl rfl (wr.heap.size) 3 107 _ #[.int .i64 x1q,.int .i64 x2q,.string x3q,.int .i64 x4q,.int .i64 0,.slice none 0 0] [.int .i64 x4q] rfl rfl I4q.blk sz3 (one1 rfl) rfl (by simp) ?_
  intro w' hb hg
  replace I4q:=I4q.store hb hg
  clear hb hg
  refine ⟨trivial,?_⟩
  refine ad ?_
  go_upto_region 10 with fail
  refine ac (by rfl) ?_
  simp only [List.map]
  refine sq1p r 0 ?_
  refine af 17 #[.pointer (some ⟨r,0,none⟩)] (by go_simp) ?_
  refine Calls.mono (aD r k4q s e4q _ I4q.rdr I4q.le (by omega)) ?_
  rintro e w5q ⟨x5q,k5q,e5q,rfl,hx5q,h5q,hg,hs5q⟩
  have I5q:=I4q.call h5q hs5q.1 hg
  clear I4q h5q hg
  refine ⟨_,rfl,trivial,?_⟩
  simp only [Act.put,PutA,PutZ,PutS]
  refine sq1p (wr.heap.size) 4 ?_
  refine aj 3 _ _ rfl rfl (wr.heap.size) 4 107 _ #[.int .i64 x1q,.int .i64 x2q,.string x3q,.int .i64 x4q,.int .i64 x5q,.slice none 0 0] [.int .i64 x5q] rfl rfl I5q.blk sz3 (one1 rfl) rfl (by simp) ?_
  intro w' hb hg
  replace I5q:=I5q.store hb hg
  clear hb hg
  refine ⟨trivial,?_⟩
  refine ad ?_
  go_upto_region 11 with fail
  refine ac (by rfl) ?_
  simp only [List.map]
  refine sq1p r 0 ?_
  refine af 146 #[.pointer (some ⟨r,0,none⟩)] (by go_simp) ?_
  refine Calls.mono (lr146 r k5q s e5q _ I5q.rdr I5q.le hs) ?_
  rintro e w6q ⟨v6q,x6q,k6q,e6q,rfl,hR6q,h6q,hg,hs6q⟩
  obtain ⟨A6q,c6q,hv6q,_,_⟩:=hR6q.shape
  subst hv6q
  have F6q:=Slv.since am hR6q I5q.aw
  clear hR6q
  have I6q:=I5q.call h6q hs6q.1 hg
  clear I5q h6q hg
  refine ⟨_,rfl,trivial,?_⟩
  simp only [Act.put,PutA,PutZ,PutS]
  refine sq1p (wr.heap.size) 5 ?_
  refine aj 34 _ _ rfl rfl (wr.heap.size) 5 107 _ #[.int .i64 x1q,.int .i64 x2q,.string x3q,.int .i64 x4q,.int .i64 x5q,.slice A6q x6q.length c6q] [.slice A6q x6q.length c6q] rfl rfl I6q.blk sz34 (one1 rfl) rfl (by simp) ?_
  intro w' hb hg
  replace F6q:=Slv.grow am F6q hg (I6q.ga)
  replace I6q:=I6q.store hb hg
  clear hb hg
  refine ⟨trivial,?_⟩
  refine ad ?_
  have FRq:styP w' (aB (wr.heap.size + 1) w') [.int .i64 x1q,.int .i64 x2q,.string x3q,.int .i64 x4q,.int .i64 x5q,.slice A6q x6q.length c6q] (x1q,x2q,x3q,x4q,x5q,x6q):=⟨_,rfl,⟨hx1q,hx2q,Nat.le_trans hx3q (by omega),hx4q,hx5q⟩,F6q⟩
  clear F6q
  have honeq:=one_sty _ _ _ _ FRq
  clear rc2
  have hI1:=HR.out.1.call I6q.rdr I6q.le I6q.grown
  have hZ1:=(I6q.grown.block _ (ae HR.out.2.2.2) (fun q => by injection q with q; omega)).trans HR.out.2.2.2
  have HL1:=HI.out.grow aF I6q.grown (Nat.lt_of_lt_of_le hra hab1)
  go_upto_region 12 with fail
  refine ac (by rfl) ?_
  simp only [List.map]
  have hcell:=aa hI1.blk 0
  refine sq1p (w.heap.size + 1) 0 ?_
  refine sq1 (.slice A i c) ?_
  clear hcell
  refine ar 107 _ rfl (wr.heap.size) 107 #[.int .i64 x1q,.int .i64 x2q,.string x3q,.int .i64 x4q,.int .i64 x5q,.slice A6q x6q.length c6q] _ rfl I6q.blk Tryz.underlying107 rfl size107 trivial ?_
  simp only [Act.put,PutA,PutZ,PutS]
  refine au (.slice (some ⟨w'.heap.size,0,none⟩) 1 1) (w'.alloc (.cells #[.int .i64 x1q,.int .i64 x2q,.string x3q,.int .i64 x4q,.int .i64 x5q,.slice A6q x6q.length c6q] 107)) (by go_simp) trivial ?_
  simp only [Act.put,PutA,PutZ,PutS]
  refine sq_push aF _ _ 42 72 (wr.heap.size + 1) 1 rfl rfl Tryz.underlying42 info107x (by decide) [.int .i64 x1q,.int .i64 x2q,.string x3q,.int .i64 x4q,.int .i64 x5q,.slice A6q x6q.length c6q] (x1q,x2q,x3q,x4q,x5q,x6q) HL1 rfl rfl honeq FRq (fun g hg => by have:=(HI.out.own_ge g hg).2; omega) (by omega) (Nat.le_trans hbr I6q.grown.size) rfl (by rw [hil]; omega) (by rw [hil]; omega) ?_
  intro v2 w2 hl2 hb2
  obtain ⟨Ax,c2x,hv2⟩:=hl2.shape
  rw [List.length_append,hil] at hv2
  subst hv2
  have hI2:=hI1.below hb2 hab1
  have hZ2:=(hb2.block _ (show w.heap.size < b1 by omega)).trans hZ1
  have hbw3:b1≤w2.heap.size:=Nat.le_trans hbr (Nat.le_trans I6q.grown.size hb2.size)
  refine ⟨trivial,?_⟩
  simp only [Act.put,PutA,PutZ,PutS]
  refine sq1p (w.heap.size + 1) 0 ?_
  refine aj 42 _ _ rfl rfl (w.heap.size + 1) 0 47 _ #[.slice Ax (i + 1) c2x,.slice none 0 0,.slice none 0 0,.slice none 0 0] [.slice Ax (i + 1) c2x] rfl rfl hI2.blk sz42 (one1 rfl) rfl (by simp) ?_
  intro w3 hb hg
  replace hI2:=hI2.store hb hg
  replace hZ2:=(hg.block _ (ae hZ2) (fun q => by injection q with q; omega)).trans hZ2
  have HL3:Hid (LstI styP 6 107 b1 (.slice Ax (i + 1) c2x) (l++[(x1q,x2q,x3q,x4q,x5q,x6q)]) w3):=qH (hl2.grow aF hg (Nat.lt_of_lt_of_le hga hab1))
  have HR3:Hid (InvN 47 30 r (w.heap.size + 1) s w (w.heap.size + 2) k6q e6q #[.slice Ax (i + 1) c2x,.slice none 0 0,.slice none 0 0,.slice none 0 0] w3∧b1≤w3.heap.size∧Res (aR styR (i + 1)) s k1 e1 (l++[(x1q,x2q,x3q,x4q,x5q,x6q)]) k6q e6q∧w3.heap[w.heap.size]? = some (.cells #[.slice none 0 0,.slice none 0 0,.slice none 0 0,.slice none 0 0] 47 (0,0))):=qH ⟨hI2,Nat.le_trans hbw3 hg.size,HR.out.2.2.1.snoc (by rw [<- hk_0]; exact (hs1q.seq (hs2q.seq (hs3q.seq (hs4q.seq (hs5q.seq hs6q)))))),hZ2⟩
  refine ⟨trivial,ad ?_⟩
  clear hl2 hb2 HL1 hI1 hI2 hZ1 hZ2 hg hb FRq honeq I6q 
  clear HI HR
  go_wp2_with fail
  go_roundw
  case rel => exact ⟨i + 1,jj,k6q,c2x,e6q,Ax,l++[(x1q,x2q,x3q,x4q,x5q,x6q)],by go_num,by omega,by simp [hil],HL3,HR3⟩
  rw [Hjj.out]; simp [intOf]
 obtain ⟨k2,e2,c2,A2,x2,hH⟩:=hcut
 obtain ⟨I2,hs2,F2,HZ⟩:=hH.out
 clear hH
 go_upto_region 13 with fail
 refine ac (by rfl) ?_
 simp only [List.map]
 refine sq1p r 0 ?_
 refine af 73 #[.pointer (some ⟨r,0,none⟩)] (by go_simp) ?_
 refine Calls.mono (size73 r k2 s e2 _ I2.rdr I2.le (by omega)) ?_
 rintro e w3 ⟨m2,k3,e3,rfl,hkm2,hn0,h3,hg,hsz2⟩
 replace F2:=Slv.grow aF F2 hg (I2.ra)
 replace HZ:=(hg.block _ (ae HZ) (fun q => by injection q with q; omega)).trans HZ
 have I3:=I2.call h3 hsz2.1 hg
 clear I2 h3 hg hn0
 refine ⟨_,rfl,trivial,?_⟩
 simp only [Act.put,PutA,PutZ,PutS]
 refine sq1i (m2:Int) ?_
 refine ad ?_
 have hms2:m2≤s.size:=by omega
 have HS2:=qH hsz2
 obtain ⟨b2,hb2⟩:=gX (w3.heap.size)
 have hab2:w.heap.size + 2≤b2:=by rw [hb2]; exact I3.aw
 have F2b:=Slv.bet aF F2
 rw [<- hb2] at F2b
 have HI0:Hid (LstI lstP 2 110 b2 (.slice none 0 0) [] w3):=qH (LstI.nil _ _ _ _ _)
 have HR0:Hid (InvN 47 30 r (w.heap.size + 1) s w (w.heap.size + 2) k3 e3 #[.slice A2 x2.length c2,.slice none 0 0,.slice none 0 0,.slice none 0 0] w3∧b2≤w3.heap.size∧Res (aR lstR 0) s k3 e3 ([]:List Lst) k3 e3∧w3.heap[w.heap.size]? = some (.cells #[.slice none 0 0,.slice none 0 0,.slice none 0 0,.slice none 0 0] 47 (0,0))∧Slv styP 6 w3 (Bet (w.heap.size + 2) b2) (.slice A2 x2.length c2) x2):=qH ⟨I3,by omega,Res.many0 _ _ _ _ I3.le,HZ,F2b⟩
 clear I3 HZ hsz2 hkm2 hb2 F2 F2b
 go_upto_block 2 with fail
 go_cut [] from 53 to 103 (fun wr => ∃ (k:Nat) (e:Int) (c:Nat) (A:Option Addr) (l:List Lst),Hid (InvN 47 30 r (w.heap.size + 1) s w (w.heap.size + 2) k e #[.slice A2 x2.length c2,.slice A l.length c,.slice none 0 0,.slice none 0 0] wr∧Res (be lstR) s k2 e2 l k e∧Slv lstP 2 wr (aB (w.heap.size + 2) wr) (.slice A l.length c) l∧wr.heap[w.heap.size]? = some (.cells #[.slice none 0 0,.slice none 0 0,.slice none 0 0,.slice none 0 0] 47 (0,0))∧Slv styP 6 wr (aB (w.heap.size + 2) wr) (.slice A2 x2.length c2) x2))
 case first =>
  go_wp2_with fail
  go_loopw [6] (fun nv wr => ∃ (i j k c:Nat) (e:Int) (A:Option Addr) (l:List Lst),nv = .int .i64 (j:Int)∧i + j = m2∧l.length = i∧Hid (LstI lstP 2 110 b2 (.slice A i c) l wr)∧Hid (InvN 47 30 r (w.heap.size + 1) s w (w.heap.size + 2) k e #[.slice A2 x2.length c2,.slice A i c,.slice none 0 0,.slice none 0 0] wr∧b2≤wr.heap.size∧Res (aR lstR i) s k3 e3 l k e∧wr.heap[w.heap.size]? = some (.cells #[.slice none 0 0,.slice none 0 0,.slice none 0 0,.slice none 0 0] 47 (0,0))∧Slv styP 6 wr (Bet (w.heap.size + 2) b2) (.slice A2 x2.length c2) x2)) (fun nv _ => (intOf nv).toNat)
  case atStart => exact ⟨0,m2,k3,0,e3,none,[],rfl,by omega,rfl,HI0,HR0⟩
  obtain ⟨i,j,k,c,e,A,l,rfl,hij,hil,HI,HR⟩:=hrel
  clear HI0 HR0
  obtain ⟨rc0,rc1,rc2,rf1,rf2⟩:=HR.out.1.rdr.cells
  by_cases hj:j = 0
  ·subst hj
   have hL:Hid (InvN 47 30 r (w.heap.size + 1) s w (w.heap.size + 2) k e #[.slice A2 x2.length c2,.slice A l.length c,.slice none 0 0,.slice none 0 0] wr∧Res (be lstR) s k2 e2 l k e∧Slv lstP 2 wr (aB (w.heap.size + 2) wr) (.slice A l.length c) l∧wr.heap[w.heap.size]? = some (.cells #[.slice none 0 0,.slice none 0 0,.slice none 0 0,.slice none 0 0] 47 (0,0))∧Slv styP 6 wr (aB (w.heap.size + 2) wr) (.slice A2 x2.length c2) x2):=qH ⟨by have h:=HR.out.1; rw [hil]; exact h,HS2.out.list (by have h3:=HR.out.2.2.1; rw [show i = m2 by omega] at h3; exact h3),by have h:=(HI.out.slv aL).since aL hab2; rw [hil]; exact h,HR.out.2.2.2.1,Slv.unbet aF HR.out.2.2.2.2 HR.out.2.1⟩
   clear HI HR HS2 hij
   go_wp2_with fail
   go_meet
   exact ⟨k,e,c,A,l,hL⟩
  have hj1:(0:Int) < (j:Int):=by omega
  have hj2:decide ((0:Int) < (j:Int)) = true:=by simpa using hj1
  have hj3:0 < j:=by omega
  rcases Int.decEq e 0 with he | he
  ·have d0:(e == 0) = false:=by simpa using he
   have hL:Hid (InvN 47 30 r (w.heap.size + 1) s w (w.heap.size + 2) k e #[.slice A2 x2.length c2,.slice A l.length c,.slice none 0 0,.slice none 0 0] wr∧Res (be lstR) s k2 e2 l k e∧Slv lstP 2 wr (aB (w.heap.size + 2) wr) (.slice A l.length c) l∧wr.heap[w.heap.size]? = some (.cells #[.slice none 0 0,.slice none 0 0,.slice none 0 0,.slice none 0 0] 47 (0,0))∧Slv styP 6 wr (aB (w.heap.size + 2) wr) (.slice A2 x2.length c2) x2):=qH ⟨by have h:=HR.out.1; rw [hil]; exact h,HS2.out.list (HR.out.2.2.1.manyErr he (by omega)),by have h:=(HI.out.slv aL).since aL hab2; rw [hil]; exact h,HR.out.2.2.2.1,Slv.unbet aF HR.out.2.2.2.2 HR.out.2.1⟩
   clear HI HR HS2 hij
   go_wp2_with fail
   go_meet
   exact ⟨k,e,c,A,l,hL⟩
  subst he
  obtain ⟨jj,hjj⟩:∃ jj,j = jj + 1:=⟨j - 1,by omega⟩
  have wj:IntKind.i64.wrap ((j:Int) - 1) = (jj:Int):=by rw [IntKind.wrap_i64] <;> omega
  have hk:k≤s.size:=HR.out.1.le
  have hbr:b2≤wr.heap.size:=HR.out.2.1
  have hra:r < w.heap.size + 2:=HR.out.1.ra
  have hga:w.heap.size + 1 < w.heap.size + 2:=HR.out.1.ga
  have Hjj:=qH hjj
  have hij2:i + jj + 1 = m2:=by omega
  clear hj hjj hij
  go_upto_region 16 with fail
  clear rc0 rc1 rc2 rf1 rf2
  obtain ⟨wo,hwo⟩:=gX (wr)
  rw [<- hwo] at HI HR hbr ⊢
  clear hwo
  refine ac (by rfl) ?_
  simp only [List.map]
  refine sq1p r 0 ?_
  refine af 17 #[.pointer (some ⟨r,0,none⟩)] (by go_simp) ?_
  refine Calls.mono (aD r k s 0 _ HR.out.1.rdr hk (by omega)) ?_
  rintro e w20 ⟨x20,k20,e20,rfl,hx20,h20,hg,hs20⟩
  refine ⟨_,rfl,trivial,?_⟩
  simp only [Act.put,PutA,PutZ,PutS]
  refine sq1 (.agg #[.int .i64 x20,.slice none 0 0]) ?_
  refine au (.pointer (some ⟨w20.heap.size,0,none⟩)) (w20.alloc (.cells #[.int .i64 0,.slice none 0 0] 110)) (by go_simp) trivial ?_
  simp only [Act.put,PutA,PutZ,PutS]
  refine as_ 110 _ _ rfl rfl (w20.heap.size) 110 _ [.int .i64 x20,.slice none 0 0] rfl rfl (heap_alloc_new w20 _) size110 (by simp [Value.oneCell']) rfl ?_
  intro w21 hb hg2
  have hrw2:r < wo.heap.size:=by omega
  have hzo:wo.heap.size≤w20.heap.size:=hg.size
  have hg3:wo.grownBy w21 (some r):=an hg ⟨hg2.os,hg2.tape,hg2.output,Nat.le_trans (by simp) hg2.size,fun i hi hn => (hg2.block i (by simp; omega) (fun q => by injection q with q; omega)).trans (Below.heap_alloc _ _ _ hi)⟩
  have I20:InvN 110 30 r (w20.heap.size) s wo (w20.heap.size + 1) k20 e20 #[.int .i64 x20,.slice none 0 0] w21:=⟨(hg2.block r (by simp; omega) (fun q => by injection q with q; omega)).trans ((Below.heap_alloc _ _ _ (by omega)).trans h20),hs20.1,hb,hg3,by omega,hzo,by omega,by omega,by have:=hg2.size; simp at this; omega⟩
  obtain ⟨qq,hqq⟩:=gX (w20.heap.size)
  rw [<- hqq] at I20 hzo
  refine ⟨trivial,ad ?_⟩
  rw [<- hqq]
  clear h20 hg hb hg2 hg3 hqq
  have HZ:True:=trivial
  go_upto_region 17 with fail
  refine ac (by rfl) ?_
  simp only [List.map]
  refine sq1p r 0 ?_
  refine af 73 #[.pointer (some ⟨r,0,none⟩)] (by go_simp) ?_
  refine Calls.mono (size73 r k20 s e20 _ I20.rdr I20.le (by omega)) ?_
  rintro e w21 ⟨m11,k21,e21,rfl,hkm11,hn0,h21,hg,hsz11⟩
  have I21:=I20.call h21 hsz11.1 hg
  clear I20 h21 hg hn0
  refine ⟨_,rfl,trivial,?_⟩
  simp only [Act.put,PutA,PutZ,PutS]
  refine sq1i (m11:Int) ?_
  refine ad ?_
  have hms11:m11≤s.size:=by omega
  have HS11:=qH hsz11
  obtain ⟨b11,hb11⟩:=gX (w21.heap.size)
  have hab11:qq + 1≤b11:=by rw [hb11]; exact I21.aw
  have HI0:Hid (LstI lvlP 4 112 b11 (.slice none 0 0) [] w21):=qH (LstI.nil _ _ _ _ _)
  have HR0:Hid (InvN 110 30 r (qq) s wo (qq + 1) k21 e21 #[.int .i64 x20,.slice none 0 0] w21∧b11≤w21.heap.size∧Res (aR lvlR 0) s k21 e21 ([]:List Lvl) k21 e21∧True):=qH ⟨I21,by omega,Res.many0 _ _ _ _ I21.le,HZ⟩
  clear I21 HZ hsz11 hkm11 hb11 
  go_upto_block 4 with fail
  go_cut [] from 69 to 97 (fun wr => ∃ (k:Nat) (e:Int) (c:Nat) (A:Option Addr) (l:List Lvl),Hid (InvN 110 30 r (qq) s wo (qq + 1) k e #[.int .i64 x20,.slice A l.length c] wr∧Res (be lvlR) s k20 e20 l k e∧Slv lvlP 4 wr (aB (qq + 1) wr) (.slice A l.length c) l∧True))
  case first =>
   go_wp2_with fail
   go_loopw [8] (fun nv wr => ∃ (i j k c:Nat) (e:Int) (A:Option Addr) (l:List Lvl),nv = .int .i64 (j:Int)∧i + j = m11∧l.length = i∧Hid (LstI lvlP 4 112 b11 (.slice A i c) l wr)∧Hid (InvN 110 30 r (qq) s wo (qq + 1) k e #[.int .i64 x20,.slice A i c] wr∧b11≤wr.heap.size∧Res (aR lvlR i) s k21 e21 l k e∧True)) (fun nv _ => (intOf nv).toNat)
   case atStart => exact ⟨0,m11,k21,0,e21,none,[],rfl,by omega,rfl,HI0,HR0⟩
   obtain ⟨i,j,k,c,e,A,l,rfl,hij,hil,HI,HR⟩:=hrel
   clear HI0 HR0
   obtain ⟨rc0,rc1,rc2,rf1,rf2⟩:=HR.out.1.rdr.cells
   by_cases hj:j = 0
   ·subst hj
    have hL:Hid (InvN 110 30 r (qq) s wo (qq + 1) k e #[.int .i64 x20,.slice A l.length c] wr∧Res (be lvlR) s k20 e20 l k e∧Slv lvlP 4 wr (aB (qq + 1) wr) (.slice A l.length c) l∧True):=qH ⟨by have h:=HR.out.1; rw [hil]; exact h,HS11.out.list (by have h3:=HR.out.2.2.1; rw [show i = m11 by omega] at h3; exact h3),by have h:=(HI.out.slv bH).since bH hab11; rw [hil]; exact h,HR.out.2.2.2⟩
    clear HI HR HS11 hij
    go_wp2_with fail
    go_meet
    exact ⟨k,e,c,A,l,hL⟩
   have hj1:(0:Int) < (j:Int):=by omega
   have hj2:decide ((0:Int) < (j:Int)) = true:=by simpa using hj1
   have hj3:0 < j:=by omega
   rcases Int.decEq e 0 with he | he
   ·have d0:(e == 0) = false:=by simpa using he
    have hL:Hid (InvN 110 30 r (qq) s wo (qq + 1) k e #[.int .i64 x20,.slice A l.length c] wr∧Res (be lvlR) s k20 e20 l k e∧Slv lvlP 4 wr (aB (qq + 1) wr) (.slice A l.length c) l∧True):=qH ⟨by have h:=HR.out.1; rw [hil]; exact h,HS11.out.list (HR.out.2.2.1.manyErr he (by omega)),by have h:=(HI.out.slv bH).since bH hab11; rw [hil]; exact h,HR.out.2.2.2⟩
    clear HI HR HS11 hij
    go_wp2_with fail
    go_meet
    exact ⟨k,e,c,A,l,hL⟩
   subst he
   obtain ⟨jj,hjj⟩:∃ jj,j = jj + 1:=⟨j - 1,by omega⟩
   have wj:IntKind.i64.wrap ((j:Int) - 1) = (jj:Int):=by rw [IntKind.wrap_i64] <;> omega
   have hk:k≤s.size:=HR.out.1.le
   have hbr:b11≤wr.heap.size:=HR.out.2.1
   have hra:r < qq + 1:=HR.out.1.ra
   have hga:qq < qq + 1:=HR.out.1.ga
   have Hjj:=qH hjj
   have hij2:i + jj + 1 = m11:=by omega
   clear hj hjj hij
   have hrw2:r < wr.heap.size:=by omega
   have I0q:InvN 112 30 r wr.heap.size s wr (wr.heap.size + 1) k 0 #[.int .i64 0,.int .i64 0,.string ⟨#[]⟩,.int .i64 0] (wr.alloc (.cells #[.int .i64 0,.int .i64 0,.string ⟨#[]⟩,.int .i64 0] 112)):=⟨HR.out.1.rdr.alloc _,hk,heap_alloc_new wr _,ap (av wr (some r)) _,by omega,Nat.le_refl _,by omega,by omega,by simp⟩
   obtain ⟨k0q,hk_0⟩:=gX (k)
   rw [<- hk_0] at I0q
   clear rc0 rc1 rf1 rf2
   go_upto_region 21 with fail
   refine ac (by rfl) ?_
   simp only [List.map]
   refine sq1p r 0 ?_
   refine af 17 #[.pointer (some ⟨r,0,none⟩)] (by go_simp) ?_
   refine Calls.mono (aD r k0q s 0 _ I0q.rdr I0q.le (by omega)) ?_
   rintro e w1q ⟨x1q,k1q,e1q,rfl,hx1q,h1q,hg,hs1q⟩
   have I1q:=I0q.call h1q hs1q.1 hg
   clear I0q h1q hg
   refine ⟨_,rfl,trivial,?_⟩
   simp only [Act.put,PutA,PutZ,PutS]
   refine sq1p (wr.heap.size) 0 ?_
   refine aj 3 _ _ rfl rfl (wr.heap.size) 0 112 _ #[.int .i64 x1q,.int .i64 0,.string ⟨#[]⟩,.int .i64 0] [.int .i64 x1q] rfl rfl I1q.blk sz3 (one1 rfl) rfl (by simp) ?_
   intro w' hb hg
   replace I1q:=I1q.store hb hg
   clear hb hg
   refine ⟨trivial,?_⟩
   refine ad ?_
   go_upto_region 22 with fail
   refine ac (by rfl) ?_
   simp only [List.map]
   refine sq1p r 0 ?_
   refine af 17 #[.pointer (some ⟨r,0,none⟩)] (by go_simp) ?_
   refine Calls.mono (aD r k1q s e1q _ I1q.rdr I1q.le (by omega)) ?_
   rintro e w2q ⟨x2q,k2q,e2q,rfl,hx2q,h2q,hg,hs2q⟩
   have I2q:=I1q.call h2q hs2q.1 hg
   clear I1q h2q hg
   refine ⟨_,rfl,trivial,?_⟩
   simp only [Act.put,PutA,PutZ,PutS]
   refine sq1p (wr.heap.size) 1 ?_
   refine aj 3 _ _ rfl rfl (wr.heap.size) 1 112 _ #[.int .i64 x1q,.int .i64 x2q,.string ⟨#[]⟩,.int .i64 0] [.int .i64 x2q] rfl rfl I2q.blk sz3 (one1 rfl) rfl (by simp) ?_
   intro w' hb hg
   replace I2q:=I2q.store hb hg
   clear hb hg
   refine ⟨trivial,?_⟩
   refine ad ?_
   go_upto_region 23 with fail
   refine ac (by rfl) ?_
   simp only [List.map]
   refine sq1p r 0 ?_
   refine af 74 #[.pointer (some ⟨r,0,none⟩)] (by go_simp) ?_
   refine Calls.mono (text74 r k2q s e2q _ I2q.rdr I2q.le (by omega)) ?_
   rintro e w3q ⟨x3q,k3q,e3q,rfl,hx3q,h3q,hg,hs3q⟩
   have I3q:=I2q.call h3q hs3q.1 hg
   clear I2q h3q hg
   refine ⟨_,rfl,trivial,?_⟩
   simp only [Act.put,PutA,PutZ,PutS]
   refine sq1p (wr.heap.size) 2 ?_
   refine aj 9 _ _ rfl rfl (wr.heap.size) 2 112 _ #[.int .i64 x1q,.int .i64 x2q,.string x3q,.int .i64 0] [.string x3q] rfl rfl I3q.blk sz9 (one1 rfl) rfl (by simp) ?_
   intro w' hb hg
   replace I3q:=I3q.store hb hg
   clear hb hg
   refine ⟨trivial,?_⟩
   refine ad ?_
   go_upto_region 24 with fail
   refine ac (by rfl) ?_
   simp only [List.map]
   refine sq1p r 0 ?_
   refine af 17 #[.pointer (some ⟨r,0,none⟩)] (by go_simp) ?_
   refine Calls.mono (aD r k3q s e3q _ I3q.rdr I3q.le (by omega)) ?_
   rintro e w4q ⟨x4q,k4q,e4q,rfl,hx4q,h4q,hg,hs4q⟩
   have I4q:=I3q.call h4q hs4q.1 hg
   clear I3q h4q hg
   refine ⟨_,rfl,trivial,?_⟩
   simp only [Act.put,PutA,PutZ,PutS]
   refine sq1p (wr.heap.size) 3 ?_
   refine aj 3 _ _ rfl rfl (wr.heap.size) 3 112 _ #[.int .i64 x1q,.int .i64 x2q,.string x3q,.int .i64 x4q] [.int .i64 x4q] rfl rfl I4q.blk sz3 (one1 rfl) rfl (by simp) ?_
   intro w' hb hg
   replace I4q:=I4q.store hb hg
   clear hb hg
   refine ⟨trivial,?_⟩
   refine ad ?_
   have FRq:lvlP w' (aB (wr.heap.size + 1) w') [.int .i64 x1q,.int .i64 x2q,.string x3q,.int .i64 x4q] (x1q,x2q,x3q,x4q):=⟨rfl,hx1q,hx2q,Nat.le_trans hx3q (by omega),hx4q⟩
   have honeq:=one_lvl _ _ _ _ FRq
   clear rc2
   have hI1:=HR.out.1.call I4q.rdr I4q.le I4q.grown
   have HL1:=HI.out.grow bH I4q.grown (Nat.lt_of_lt_of_le hra hab11)
   go_upto_region 25 with fail
   refine ac (by rfl) ?_
   simp only [List.map]
   have hcell:=aa hI1.blk 1
   refine sq1p qq 1 ?_
   refine sq1 (.slice A i c) ?_
   clear hcell
   refine ar 112 _ rfl (wr.heap.size) 112 #[.int .i64 x1q,.int .i64 x2q,.string x3q,.int .i64 x4q] _ rfl I4q.blk Tryz.underlying112 rfl size112 trivial ?_
   simp only [Act.put,PutA,PutZ,PutS]
   refine au (.slice (some ⟨w'.heap.size,0,none⟩) 1 1) (w'.alloc (.cells #[.int .i64 x1q,.int .i64 x2q,.string x3q,.int .i64 x4q] 112)) (by go_simp) trivial ?_
   simp only [Act.put,PutA,PutZ,PutS]
   refine sq_push bH _ _ 108 40 (wr.heap.size + 1) 1 rfl rfl Tryz.underlying108 info112x (by decide) [.int .i64 x1q,.int .i64 x2q,.string x3q,.int .i64 x4q] (x1q,x2q,x3q,x4q) HL1 rfl rfl honeq FRq (fun g hg => by have:=(HI.out.own_ge g hg).2; omega) (by omega) (Nat.le_trans hbr I4q.grown.size) rfl (by rw [hil]; omega) (by rw [hil]; omega) ?_
   intro v2 w2 hl2 hb2
   obtain ⟨Ax,c2x,hv2⟩:=hl2.shape
   rw [List.length_append,hil] at hv2
   subst hv2
   have hI2:=hI1.below hb2 hab11
   have hbw3:b11≤w2.heap.size:=Nat.le_trans hbr (Nat.le_trans I4q.grown.size hb2.size)
   refine ⟨trivial,?_⟩
   simp only [Act.put,PutA,PutZ,PutS]
   refine sq1p qq 1 ?_
   refine aj 108 _ _ rfl rfl (qq) 1 110 _ #[.int .i64 x20,.slice Ax (i + 1) c2x] [.slice Ax (i + 1) c2x] rfl rfl hI2.blk sz108 (one1 rfl) rfl (by simp) ?_
   intro w3 hb hg
   replace hI2:=hI2.store hb hg
   have HL3:Hid (LstI lvlP 4 112 b11 (.slice Ax (i + 1) c2x) (l++[(x1q,x2q,x3q,x4q)]) w3):=qH (hl2.grow bH hg (Nat.lt_of_lt_of_le hga hab11))
   have HR3:Hid (InvN 110 30 r (qq) s wo (qq + 1) k4q e4q #[.int .i64 x20,.slice Ax (i + 1) c2x] w3∧b11≤w3.heap.size∧Res (aR lvlR (i + 1)) s k21 e21 (l++[(x1q,x2q,x3q,x4q)]) k4q e4q∧True):=qH ⟨hI2,Nat.le_trans hbw3 hg.size,HR.out.2.2.1.snoc (by rw [<- hk_0]; exact (hs1q.seq (hs2q.seq (hs3q.seq hs4q)))),trivial⟩
   refine ⟨trivial,ad ?_⟩
   clear hl2 hb2 HL1 hI1 hI2  hg hb FRq honeq I4q 
   clear HI HR
   go_wp2_with fail
   go_roundw
   case rel => exact ⟨i + 1,jj,k4q,c2x,e4q,Ax,l++[(x1q,x2q,x3q,x4q)],by go_num,by omega,by simp [hil],HL3,HR3⟩
   rw [Hjj.out]; simp [intOf]
  obtain ⟨k22,e22,c22,A22,x22,hH⟩:=hcut
  obtain ⟨I22,hs22,F22,HZ⟩:=hH.out
  clear hH
  have FRq:lstP _ (aB (qq + 1) _) [.int .i64 x20,.slice A22 x22.length c22] (x20,x22):=⟨_,rfl,hx20,F22⟩
  have honeq:=one_lst _ _ _ _ FRq
  clear F22 HZ
  have hI1:=HR.out.1.call I22.rdr I22.le I22.grown
  have hZ1:=(I22.grown.block _ (ae HR.out.2.2.2.1) (fun q => by injection q with q; omega)).trans HR.out.2.2.2.1
  have HL1:=HI.out.grow aL I22.grown (Nat.lt_of_lt_of_le hra hab2)
  have hF0:=Slv.bet_grow aF HR.out.2.2.2.2 I22.grown hra
  go_upto_region 26 with fail
  refine ac (by rfl) ?_
  simp only [List.map]
  have hcell:=aa hI1.blk 1
  refine sq1p (w.heap.size + 1) 1 ?_
  refine sq1 (.slice A i c) ?_
  clear hcell
  refine ar 110 _ rfl (qq) 110 #[.int .i64 x20,.slice A22 x22.length c22] _ rfl I22.blk Tryz.underlying110 rfl size110 trivial ?_
  simp only [Act.put,PutA,PutZ,PutS]
  refine au (.slice (some ⟨wc.heap.size,0,none⟩) 1 1) (wc.alloc (.cells #[.int .i64 x20,.slice A22 x22.length c22] 110)) (by go_simp) trivial ?_
  simp only [Act.put,PutA,PutZ,PutS]
  refine sq_push aL _ _ 43 32 (qq + 1) 1 rfl rfl Tryz.underlying43 info110x (by decide) [.int .i64 x20,.slice A22 x22.length c22] (x20,x22) HL1 rfl rfl honeq FRq (fun g hg => by have:=(HI.out.own_ge g hg).2; omega) (by omega) (Nat.le_trans hbr I22.grown.size) rfl (by rw [hil]; omega) (by rw [hil]; omega) ?_
  intro v2 w2 hl2 hb2
  obtain ⟨Ax,c2x,hv2⟩:=hl2.shape
  rw [List.length_append,hil] at hv2
  subst hv2
  have hI2:=hI1.below hb2 hab2
  have hZ2:=(hb2.block _ (show w.heap.size < b2 by omega)).trans hZ1
  replace hF0:=Slv.bet_below aF hF0 hb2
  have hbw3:b2≤w2.heap.size:=Nat.le_trans hbr (Nat.le_trans I22.grown.size hb2.size)
  refine ⟨trivial,?_⟩
  simp only [Act.put,PutA,PutZ,PutS]
  refine sq1p (w.heap.size + 1) 1 ?_
  refine aj 43 _ _ rfl rfl (w.heap.size + 1) 1 47 _ #[.slice A2 x2.length c2,.slice Ax (i + 1) c2x,.slice none 0 0,.slice none 0 0] [.slice Ax (i + 1) c2x] rfl rfl hI2.blk sz43 (one1 rfl) rfl (by simp) ?_
  intro w3 hb hg
  replace hI2:=hI2.store hb hg
  replace hZ2:=(hg.block _ (ae hZ2) (fun q => by injection q with q; omega)).trans hZ2
  have HL3:Hid (LstI lstP 2 110 b2 (.slice Ax (i + 1) c2x) (l++[(x20,x22)]) w3):=qH (hl2.grow aL hg (Nat.lt_of_lt_of_le hga hab2))
  replace hF0:=Slv.bet_grow aF hF0 hg hga
  have HR3:Hid (InvN 47 30 r (w.heap.size + 1) s w (w.heap.size + 2) k22 e22 #[.slice A2 x2.length c2,.slice Ax (i + 1) c2x,.slice none 0 0,.slice none 0 0] w3∧b2≤w3.heap.size∧Res (aR lstR (i + 1)) s k3 e3 (l++[(x20,x22)]) k22 e22∧w3.heap[w.heap.size]? = some (.cells #[.slice none 0 0,.slice none 0 0,.slice none 0 0,.slice none 0 0] 47 (0,0))∧Slv styP 6 w3 (Bet (w.heap.size + 2) b2) (.slice A2 x2.length c2) x2):=qH ⟨hI2,Nat.le_trans hbw3 hg.size,HR.out.2.2.1.snoc (hs20.seq hs22),hZ2,hF0⟩
  refine ⟨trivial,ad ?_⟩
  clear hl2 hb2 HL1 hI1 hI2 hZ1 hZ2 hg hb FRq honeq I22 hF0
  clear HI HR
  go_wp2_with fail
  go_roundw
  case rel => exact ⟨i + 1,jj,k22,c2x,e22,Ax,l++[(x20,x22)],by go_num,by omega,by simp [hil],HL3,HR3⟩
  rw [Hjj.out]; simp [intOf]
 obtain ⟨k4,e4,c4,A4,x4,hH⟩:=hcut
 obtain ⟨I4,hs4,F4,HZ,F2⟩:=hH.out
 clear hH
 go_upto_region 27 with fail
 refine ac (by rfl) ?_
 simp only [List.map]
 refine sq1p r 0 ?_
 refine af 73 #[.pointer (some ⟨r,0,none⟩)] (by go_simp) ?_
 refine Calls.mono (size73 r k4 s e4 _ I4.rdr I4.le (by omega)) ?_
 rintro e w5 ⟨m3,k5,e5,rfl,hkm3,hn0,h5,hg,hsz3⟩
 replace F2:=Slv.grow aF F2 hg (I4.ra)
 replace F4:=Slv.grow aL F4 hg (I4.ra)
 replace HZ:=(hg.block _ (ae HZ) (fun q => by injection q with q; omega)).trans HZ
 have I5:=I4.call h5 hsz3.1 hg
 clear I4 h5 hg hn0
 refine ⟨_,rfl,trivial,?_⟩
 simp only [Act.put,PutA,PutZ,PutS]
 refine sq1i (m3:Int) ?_
 refine ad ?_
 have hms3:m3≤s.size:=by omega
 have HS3:=qH hsz3
 obtain ⟨b3,hb3⟩:=gX (w5.heap.size)
 have hab3:w.heap.size + 2≤b3:=by rw [hb3]; exact I5.aw
 have F2b:=Slv.bet aF F2
 rw [<- hb3] at F2b
 have F4b:=Slv.bet aL F4
 rw [<- hb3] at F4b
 have HI0:Hid (LstI cmtP 6 114 b3 (.slice none 0 0) [] w5):=qH (LstI.nil _ _ _ _ _)
 have HR0:Hid (InvN 47 30 r (w.heap.size + 1) s w (w.heap.size + 2) k5 e5 #[.slice A2 x2.length c2,.slice A4 x4.length c4,.slice none 0 0,.slice none 0 0] w5∧b3≤w5.heap.size∧Res (aR cmtR 0) s k5 e5 ([]:List Cmt) k5 e5∧w5.heap[w.heap.size]? = some (.cells #[.slice none 0 0,.slice none 0 0,.slice none 0 0,.slice none 0 0] 47 (0,0))∧Slv styP 6 w5 (Bet (w.heap.size + 2) b3) (.slice A2 x2.length c2) x2∧Slv lstP 2 w5 (Bet (w.heap.size + 2) b3) (.slice A4 x4.length c4) x4):=qH ⟨I5,by omega,Res.many0 _ _ _ _ I5.le,HZ,F2b,F4b⟩
 clear I5 HZ hsz3 hkm3 hb3 F2 F2b F4 F4b
 go_upto_block 6 with fail
 go_cut [] from 106 to 140 (fun wr => ∃ (k:Nat) (e:Int) (c:Nat) (A:Option Addr) (l:List Cmt),Hid (InvN 47 30 r (w.heap.size + 1) s w (w.heap.size + 2) k e #[.slice A2 x2.length c2,.slice A4 x4.length c4,.slice A l.length c,.slice none 0 0] wr∧Res (be cmtR) s k4 e4 l k e∧Slv cmtP 6 wr (aB (w.heap.size + 2) wr) (.slice A l.length c) l∧wr.heap[w.heap.size]? = some (.cells #[.slice none 0 0,.slice none 0 0,.slice none 0 0,.slice none 0 0] 47 (0,0))∧Slv styP 6 wr (aB (w.heap.size + 2) wr) (.slice A2 x2.length c2) x2∧Slv lstP 2 wr (aB (w.heap.size + 2) wr) (.slice A4 x4.length c4) x4))
 case first =>
  go_wp2_with fail
  go_loopw [10] (fun nv wr => ∃ (i j k c:Nat) (e:Int) (A:Option Addr) (l:List Cmt),nv = .int .i64 (j:Int)∧i + j = m3∧l.length = i∧Hid (LstI cmtP 6 114 b3 (.slice A i c) l wr)∧Hid (InvN 47 30 r (w.heap.size + 1) s w (w.heap.size + 2) k e #[.slice A2 x2.length c2,.slice A4 x4.length c4,.slice A i c,.slice none 0 0] wr∧b3≤wr.heap.size∧Res (aR cmtR i) s k5 e5 l k e∧wr.heap[w.heap.size]? = some (.cells #[.slice none 0 0,.slice none 0 0,.slice none 0 0,.slice none 0 0] 47 (0,0))∧Slv styP 6 wr (Bet (w.heap.size + 2) b3) (.slice A2 x2.length c2) x2∧Slv lstP 2 wr (Bet (w.heap.size + 2) b3) (.slice A4 x4.length c4) x4)) (fun nv _ => (intOf nv).toNat)
  case atStart => exact ⟨0,m3,k5,0,e5,none,[],rfl,by omega,rfl,HI0,HR0⟩
  obtain ⟨i,j,k,c,e,A,l,rfl,hij,hil,HI,HR⟩:=hrel
  clear HI0 HR0
  obtain ⟨rc0,rc1,rc2,rf1,rf2⟩:=HR.out.1.rdr.cells
  by_cases hj:j = 0
  ·subst hj
   have hL:Hid (InvN 47 30 r (w.heap.size + 1) s w (w.heap.size + 2) k e #[.slice A2 x2.length c2,.slice A4 x4.length c4,.slice A l.length c,.slice none 0 0] wr∧Res (be cmtR) s k4 e4 l k e∧Slv cmtP 6 wr (aB (w.heap.size + 2) wr) (.slice A l.length c) l∧wr.heap[w.heap.size]? = some (.cells #[.slice none 0 0,.slice none 0 0,.slice none 0 0,.slice none 0 0] 47 (0,0))∧Slv styP 6 wr (aB (w.heap.size + 2) wr) (.slice A2 x2.length c2) x2∧Slv lstP 2 wr (aB (w.heap.size + 2) wr) (.slice A4 x4.length c4) x4):=qH ⟨by have h:=HR.out.1; rw [hil]; exact h,HS3.out.list (by have h3:=HR.out.2.2.1; rw [show i = m3 by omega] at h3; exact h3),by have h:=(HI.out.slv aY).since aY hab3; rw [hil]; exact h,HR.out.2.2.2.1,Slv.unbet aF HR.out.2.2.2.2.1 HR.out.2.1,Slv.unbet aL HR.out.2.2.2.2.2 HR.out.2.1⟩
   clear HI HR HS3 hij
   go_wp2_with fail
   go_meet
   exact ⟨k,e,c,A,l,hL⟩
  have hj1:(0:Int) < (j:Int):=by omega
  have hj2:decide ((0:Int) < (j:Int)) = true:=by simpa using hj1
  have hj3:0 < j:=by omega
  rcases Int.decEq e 0 with he | he
  ·have d0:(e == 0) = false:=by simpa using he
   have hL:Hid (InvN 47 30 r (w.heap.size + 1) s w (w.heap.size + 2) k e #[.slice A2 x2.length c2,.slice A4 x4.length c4,.slice A l.length c,.slice none 0 0] wr∧Res (be cmtR) s k4 e4 l k e∧Slv cmtP 6 wr (aB (w.heap.size + 2) wr) (.slice A l.length c) l∧wr.heap[w.heap.size]? = some (.cells #[.slice none 0 0,.slice none 0 0,.slice none 0 0,.slice none 0 0] 47 (0,0))∧Slv styP 6 wr (aB (w.heap.size + 2) wr) (.slice A2 x2.length c2) x2∧Slv lstP 2 wr (aB (w.heap.size + 2) wr) (.slice A4 x4.length c4) x4):=qH ⟨by have h:=HR.out.1; rw [hil]; exact h,HS3.out.list (HR.out.2.2.1.manyErr he (by omega)),by have h:=(HI.out.slv aY).since aY hab3; rw [hil]; exact h,HR.out.2.2.2.1,Slv.unbet aF HR.out.2.2.2.2.1 HR.out.2.1,Slv.unbet aL HR.out.2.2.2.2.2 HR.out.2.1⟩
   clear HI HR HS3 hij
   go_wp2_with fail
   go_meet
   exact ⟨k,e,c,A,l,hL⟩
  subst he
  obtain ⟨jj,hjj⟩:∃ jj,j = jj + 1:=⟨j - 1,by omega⟩
  have wj:IntKind.i64.wrap ((j:Int) - 1) = (jj:Int):=by rw [IntKind.wrap_i64] <;> omega
  have hk:k≤s.size:=HR.out.1.le
  have hbr:b3≤wr.heap.size:=HR.out.2.1
  have hra:r < w.heap.size + 2:=HR.out.1.ra
  have hga:w.heap.size + 1 < w.heap.size + 2:=HR.out.1.ga
  have Hjj:=qH hjj
  have hij2:i + jj + 1 = m3:=by omega
  clear hj hjj hij
  have hrw2:r < wr.heap.size:=by omega
  have I0q:InvN 114 30 r wr.heap.size s wr (wr.heap.size + 1) k 0 #[.int .i64 0,.int .i64 0,.string ⟨#[]⟩,.int .i64 0,.string ⟨#[]⟩,.bool false] (wr.alloc (.cells #[.int .i64 0,.int .i64 0,.string ⟨#[]⟩,.int .i64 0,.string ⟨#[]⟩,.bool false] 114)):=⟨HR.out.1.rdr.alloc _,hk,heap_alloc_new wr _,ap (av wr (some r)) _,by omega,Nat.le_refl _,by omega,by omega,by simp⟩
  obtain ⟨k0q,hk_0⟩:=gX (k)
  rw [<- hk_0] at I0q
  clear rc0 rc1 rf1 rf2
  go_upto_region 31 with fail
  refine ac (by rfl) ?_
  simp only [List.map]
  refine sq1p r 0 ?_
  refine af 17 #[.pointer (some ⟨r,0,none⟩)] (by go_simp) ?_
  refine Calls.mono (aD r k0q s 0 _ I0q.rdr I0q.le (by omega)) ?_
  rintro e w1q ⟨x1q,k1q,e1q,rfl,hx1q,h1q,hg,hs1q⟩
  have I1q:=I0q.call h1q hs1q.1 hg
  clear I0q h1q hg
  refine ⟨_,rfl,trivial,?_⟩
  simp only [Act.put,PutA,PutZ,PutS]
  refine sq1p (wr.heap.size) 0 ?_
  refine aj 3 _ _ rfl rfl (wr.heap.size) 0 114 _ #[.int .i64 x1q,.int .i64 0,.string ⟨#[]⟩,.int .i64 0,.string ⟨#[]⟩,.bool false] [.int .i64 x1q] rfl rfl I1q.blk sz3 (one1 rfl) rfl (by simp) ?_
  intro w' hb hg
  replace I1q:=I1q.store hb hg
  clear hb hg
  refine ⟨trivial,?_⟩
  refine ad ?_
  go_upto_region 32 with fail
  refine ac (by rfl) ?_
  simp only [List.map]
  refine sq1p r 0 ?_
  refine af 17 #[.pointer (some ⟨r,0,none⟩)] (by go_simp) ?_
  refine Calls.mono (aD r k1q s e1q _ I1q.rdr I1q.le (by omega)) ?_
  rintro e w2q ⟨x2q,k2q,e2q,rfl,hx2q,h2q,hg,hs2q⟩
  have I2q:=I1q.call h2q hs2q.1 hg
  clear I1q h2q hg
  refine ⟨_,rfl,trivial,?_⟩
  simp only [Act.put,PutA,PutZ,PutS]
  refine sq1p (wr.heap.size) 1 ?_
  refine aj 3 _ _ rfl rfl (wr.heap.size) 1 114 _ #[.int .i64 x1q,.int .i64 x2q,.string ⟨#[]⟩,.int .i64 0,.string ⟨#[]⟩,.bool false] [.int .i64 x2q] rfl rfl I2q.blk sz3 (one1 rfl) rfl (by simp) ?_
  intro w' hb hg
  replace I2q:=I2q.store hb hg
  clear hb hg
  refine ⟨trivial,?_⟩
  refine ad ?_
  go_upto_region 33 with fail
  refine ac (by rfl) ?_
  simp only [List.map]
  refine sq1p r 0 ?_
  refine af 74 #[.pointer (some ⟨r,0,none⟩)] (by go_simp) ?_
  refine Calls.mono (text74 r k2q s e2q _ I2q.rdr I2q.le (by omega)) ?_
  rintro e w3q ⟨x3q,k3q,e3q,rfl,hx3q,h3q,hg,hs3q⟩
  have I3q:=I2q.call h3q hs3q.1 hg
  clear I2q h3q hg
  refine ⟨_,rfl,trivial,?_⟩
  simp only [Act.put,PutA,PutZ,PutS]
  refine sq1p (wr.heap.size) 2 ?_
  refine aj 9 _ _ rfl rfl (wr.heap.size) 2 114 _ #[.int .i64 x1q,.int .i64 x2q,.string x3q,.int .i64 0,.string ⟨#[]⟩,.bool false] [.string x3q] rfl rfl I3q.blk sz9 (one1 rfl) rfl (by simp) ?_
  intro w' hb hg
  replace I3q:=I3q.store hb hg
  clear hb hg
  refine ⟨trivial,?_⟩
  refine ad ?_
  go_upto_region 34 with fail
  refine ac (by rfl) ?_
  simp only [List.map]
  refine sq1p r 0 ?_
  refine af 17 #[.pointer (some ⟨r,0,none⟩)] (by go_simp) ?_
  refine Calls.mono (aD r k3q s e3q _ I3q.rdr I3q.le (by omega)) ?_
  rintro e w4q ⟨x4q,k4q,e4q,rfl,hx4q,h4q,hg,hs4q⟩
  have I4q:=I3q.call h4q hs4q.1 hg
  clear I3q h4q hg
  refine ⟨_,rfl,trivial,?_⟩
  simp only [Act.put,PutA,PutZ,PutS]
  refine sq1p (wr.heap.size) 3 ?_
  refine aj 3 _ _ rfl rfl (wr.heap.size) 3 114 _ #[.int .i64 x1q,.int .i64 x2q,.string x3q,.int .i64 x4q,.string ⟨#[]⟩,.bool false] [.int .i64 x4q] rfl rfl I4q.blk sz3 (one1 rfl) rfl (by simp) ?_
  intro w' hb hg
  replace I4q:=I4q.store hb hg
  clear hb hg
  refine ⟨trivial,?_⟩
  refine ad ?_
  go_upto_region 35 with fail
  refine ac (by rfl) ?_
  simp only [List.map]
  refine sq1p r 0 ?_
  refine af 74 #[.pointer (some ⟨r,0,none⟩)] (by go_simp) ?_
  refine Calls.mono (text74 r k4q s e4q _ I4q.rdr I4q.le (by omega)) ?_
  rintro e w5q ⟨x5q,k5q,e5q,rfl,hx5q,h5q,hg,hs5q⟩
  have I5q:=I4q.call h5q hs5q.1 hg
  clear I4q h5q hg
  refine ⟨_,rfl,trivial,?_⟩
  simp only [Act.put,PutA,PutZ,PutS]
  refine sq1p (wr.heap.size) 4 ?_
  refine aj 9 _ _ rfl rfl (wr.heap.size) 4 114 _ #[.int .i64 x1q,.int .i64 x2q,.string x3q,.int .i64 x4q,.string x5q,.bool false] [.string x5q] rfl rfl I5q.blk sz9 (one1 rfl) rfl (by simp) ?_
  intro w' hb hg
  replace I5q:=I5q.store hb hg
  clear hb hg
  refine ⟨trivial,?_⟩
  refine ad ?_
  go_upto_region 36 with fail
  refine ac (by rfl) ?_
  simp only [List.map]
  refine sq1p r 0 ?_
  refine af 93 #[.pointer (some ⟨r,0,none⟩)] (by go_simp) ?_
  refine Calls.mono (flag93 r k5q s e5q _ I5q.rdr I5q.le (by omega)) ?_
  rintro e w6q ⟨x6q,k6q,e6q,rfl,h6q,hg,hs6q⟩
  have I6q:=I5q.call h6q hs6q.1 hg
  clear I5q h6q hg
  refine ⟨_,rfl,trivial,?_⟩
  simp only [Act.put,PutA,PutZ,PutS]
  refine sq1p (wr.heap.size) 5 ?_
  refine aj 4 _ _ rfl rfl (wr.heap.size) 5 114 _ #[.int .i64 x1q,.int .i64 x2q,.string x3q,.int .i64 x4q,.string x5q,.bool x6q] [.bool x6q] rfl rfl I6q.blk sz4 (one1 rfl) rfl (by simp) ?_
  intro w' hb hg
  replace I6q:=I6q.store hb hg
  clear hb hg
  refine ⟨trivial,?_⟩
  refine ad ?_
  have FRq:cmtP w' (aB (wr.heap.size + 1) w') [.int .i64 x1q,.int .i64 x2q,.string x3q,.int .i64 x4q,.string x5q,.bool x6q] (x1q,x2q,x3q,x4q,x5q,x6q):=⟨rfl,hx1q,hx2q,Nat.le_trans hx3q (by omega),hx4q,Nat.le_trans hx5q (by omega),trivial⟩
  have honeq:=one_cmt _ _ _ _ FRq
  clear rc2
  have hI1:=HR.out.1.call I6q.rdr I6q.le I6q.grown
  have hZ1:=(I6q.grown.block _ (ae HR.out.2.2.2.1) (fun q => by injection q with q; omega)).trans HR.out.2.2.2.1
  have HL1:=HI.out.grow aY I6q.grown (Nat.lt_of_lt_of_le hra hab3)
  have hF0:=Slv.bet_grow aF HR.out.2.2.2.2.1 I6q.grown hra
  have hF1:=Slv.bet_grow aL HR.out.2.2.2.2.2 I6q.grown hra
  go_upto_region 37 with fail
  refine ac (by rfl) ?_
  simp only [List.map]
  have hcell:=aa hI1.blk 2
  refine sq1p (w.heap.size + 1) 2 ?_
  refine sq1 (.slice A i c) ?_
  clear hcell
  refine ar 114 _ rfl (wr.heap.size) 114 #[.int .i64 x1q,.int .i64 x2q,.string x3q,.int .i64 x4q,.string x5q,.bool x6q] _ rfl I6q.blk Tryz.underlying114 rfl size114 trivial ?_
  simp only [Act.put,PutA,PutZ,PutS]
  refine au (.slice (some ⟨w'.heap.size,0,none⟩) 1 1) (w'.alloc (.cells #[.int .i64 x1q,.int .i64 x2q,.string x3q,.int .i64 x4q,.string x5q,.bool x6q] 114)) (by go_simp) trivial ?_
  simp only [Act.put,PutA,PutZ,PutS]
  refine sq_push aY _ _ 44 64 (wr.heap.size + 1) 1 rfl rfl Tryz.underlying44 info114x (by decide) [.int .i64 x1q,.int .i64 x2q,.string x3q,.int .i64 x4q,.string x5q,.bool x6q] (x1q,x2q,x3q,x4q,x5q,x6q) HL1 rfl rfl honeq FRq (fun g hg => by have:=(HI.out.own_ge g hg).2; omega) (by omega) (Nat.le_trans hbr I6q.grown.size) rfl (by rw [hil]; omega) (by rw [hil]; omega) ?_
  intro v2 w2 hl2 hb2
  obtain ⟨Ax,c2x,hv2⟩:=hl2.shape
  rw [List.length_append,hil] at hv2
  subst hv2
  have hI2:=hI1.below hb2 hab3
  have hZ2:=(hb2.block _ (show w.heap.size < b3 by omega)).trans hZ1
  replace hF0:=Slv.bet_below aF hF0 hb2
  replace hF1:=Slv.bet_below aL hF1 hb2
  have hbw3:b3≤w2.heap.size:=Nat.le_trans hbr (Nat.le_trans I6q.grown.size hb2.size)
  refine ⟨trivial,?_⟩
  simp only [Act.put,PutA,PutZ,PutS]
  refine sq1p (w.heap.size + 1) 2 ?_
  refine aj 44 _ _ rfl rfl (w.heap.size + 1) 2 47 _ #[.slice A2 x2.length c2,.slice A4 x4.length c4,.slice Ax (i + 1) c2x,.slice none 0 0] [.slice Ax (i + 1) c2x] rfl rfl hI2.blk sz44 (one1 rfl) rfl (by simp) ?_
  intro w3 hb hg
  replace hI2:=hI2.store hb hg
  replace hZ2:=(hg.block _ (ae hZ2) (fun q => by injection q with q; omega)).trans hZ2
  have HL3:Hid (LstI cmtP 6 114 b3 (.slice Ax (i + 1) c2x) (l++[(x1q,x2q,x3q,x4q,x5q,x6q)]) w3):=qH (hl2.grow aY hg (Nat.lt_of_lt_of_le hga hab3))
  replace hF0:=Slv.bet_grow aF hF0 hg hga
  replace hF1:=Slv.bet_grow aL hF1 hg hga
  have HR3:Hid (InvN 47 30 r (w.heap.size + 1) s w (w.heap.size + 2) k6q e6q #[.slice A2 x2.length c2,.slice A4 x4.length c4,.slice Ax (i + 1) c2x,.slice none 0 0] w3∧b3≤w3.heap.size∧Res (aR cmtR (i + 1)) s k5 e5 (l++[(x1q,x2q,x3q,x4q,x5q,x6q)]) k6q e6q∧w3.heap[w.heap.size]? = some (.cells #[.slice none 0 0,.slice none 0 0,.slice none 0 0,.slice none 0 0] 47 (0,0))∧Slv styP 6 w3 (Bet (w.heap.size + 2) b3) (.slice A2 x2.length c2) x2∧Slv lstP 2 w3 (Bet (w.heap.size + 2) b3) (.slice A4 x4.length c4) x4):=qH ⟨hI2,Nat.le_trans hbw3 hg.size,HR.out.2.2.1.snoc (by rw [<- hk_0]; exact (hs1q.seq (hs2q.seq (hs3q.seq (hs4q.seq (hs5q.seq hs6q)))))),hZ2,hF0,hF1⟩
  refine ⟨trivial,ad ?_⟩
  clear hl2 hb2 HL1 hI1 hI2 hZ1 hZ2 hg hb FRq honeq I6q hF0 hF1
  clear HI HR
  go_wp2_with fail
  go_roundw
  case rel => exact ⟨i + 1,jj,k6q,c2x,e6q,Ax,l++[(x1q,x2q,x3q,x4q,x5q,x6q)],by go_num,by omega,by simp [hil],HL3,HR3⟩
  rw [Hjj.out]; simp [intOf]
 obtain ⟨k6,e6,c6,A6,x6,hH⟩:=hcut
 obtain ⟨I6,hs6,F6,HZ,F2,F4⟩:=hH.out
 clear hH
 go_upto_region 38 with fail
 refine ac (by rfl) ?_
 simp only [List.map]
 refine sq1p r 0 ?_
 refine af 73 #[.pointer (some ⟨r,0,none⟩)] (by go_simp) ?_
 refine Calls.mono (size73 r k6 s e6 _ I6.rdr I6.le (by omega)) ?_
 rintro e w7 ⟨m4,k7,e7,rfl,hkm4,hn0,h7,hg,hsz4⟩
 replace F2:=Slv.grow aF F2 hg (I6.ra)
 replace F4:=Slv.grow aL F4 hg (I6.ra)
 replace F6:=Slv.grow aY F6 hg (I6.ra)
 replace HZ:=(hg.block _ (ae HZ) (fun q => by injection q with q; omega)).trans HZ
 have I7:=I6.call h7 hsz4.1 hg
 clear I6 h7 hg hn0
 refine ⟨_,rfl,trivial,?_⟩
 simp only [Act.put,PutA,PutZ,PutS]
 refine sq1i (m4:Int) ?_
 refine ad ?_
 have hms4:m4≤s.size:=by omega
 have HS4:=qH hsz4
 obtain ⟨b4,hb4⟩:=gX (w7.heap.size)
 have hab4:w.heap.size + 2≤b4:=by rw [hb4]; exact I7.aw
 have F2b:=Slv.bet aF F2
 rw [<- hb4] at F2b
 have F4b:=Slv.bet aL F4
 rw [<- hb4] at F4b
 have F6b:=Slv.bet aY F6
 rw [<- hb4] at F6b
 have HI0:Hid (LstI vrP 2 116 b4 (.slice none 0 0) [] w7):=qH (LstI.nil _ _ _ _ _)
 have HR0:Hid (InvN 47 30 r (w.heap.size + 1) s w (w.heap.size + 2) k7 e7 #[.slice A2 x2.length c2,.slice A4 x4.length c4,.slice A6 x6.length c6,.slice none 0 0] w7∧b4≤w7.heap.size∧Res (aR vrR 0) s k7 e7 ([]:List Vr) k7 e7∧w7.heap[w.heap.size]? = some (.cells #[.slice none 0 0,.slice none 0 0,.slice none 0 0,.slice none 0 0] 47 (0,0))∧Slv styP 6 w7 (Bet (w.heap.size + 2) b4) (.slice A2 x2.length c2) x2∧Slv lstP 2 w7 (Bet (w.heap.size + 2) b4) (.slice A4 x4.length c4) x4∧Slv cmtP 6 w7 (Bet (w.heap.size + 2) b4) (.slice A6 x6.length c6) x6):=qH ⟨I7,by omega,Res.many0 _ _ _ _ I7.le,HZ,F2b,F4b,F6b⟩
 clear I7 HZ hsz4 hkm4 hb4 F2 F2b F4 F4b F6 F6b
 go_upto_block 8 with fail
 go_cut [] from 143 to 164 (fun wr => ∃ (k:Nat) (e:Int) (c:Nat) (A:Option Addr) (l:List Vr),Hid (InvN 47 30 r (w.heap.size + 1) s w (w.heap.size + 2) k e #[.slice A2 x2.length c2,.slice A4 x4.length c4,.slice A6 x6.length c6,.slice A l.length c] wr∧Res (be vrR) s k6 e6 l k e∧Slv vrP 2 wr (aB (w.heap.size + 2) wr) (.slice A l.length c) l∧wr.heap[w.heap.size]? = some (.cells #[.slice none 0 0,.slice none 0 0,.slice none 0 0,.slice none 0 0] 47 (0,0))∧Slv styP 6 wr (aB (w.heap.size + 2) wr) (.slice A2 x2.length c2) x2∧Slv lstP 2 wr (aB (w.heap.size + 2) wr) (.slice A4 x4.length c4) x4∧Slv cmtP 6 wr (aB (w.heap.size + 2) wr) (.slice A6 x6.length c6) x6))
 case first =>
  go_wp2_with fail
  go_loopw [12] (fun nv wr => ∃ (i j k c:Nat) (e:Int) (A:Option Addr) (l:List Vr),nv = .int .i64 (j:Int)∧i + j = m4∧l.length = i∧Hid (LstI vrP 2 116 b4 (.slice A i c) l wr)∧Hid (InvN 47 30 r (w.heap.size + 1) s w (w.heap.size + 2) k e #[.slice A2 x2.length c2,.slice A4 x4.length c4,.slice A6 x6.length c6,.slice A i c] wr∧b4≤wr.heap.size∧Res (aR vrR i) s k7 e7 l k e∧wr.heap[w.heap.size]? = some (.cells #[.slice none 0 0,.slice none 0 0,.slice none 0 0,.slice none 0 0] 47 (0,0))∧Slv styP 6 wr (Bet (w.heap.size + 2) b4) (.slice A2 x2.length c2) x2∧Slv lstP 2 wr (Bet (w.heap.size + 2) b4) (.slice A4 x4.length c4) x4∧Slv cmtP 6 wr (Bet (w.heap.size + 2) b4) (.slice A6 x6.length c6) x6)) (fun nv _ => (intOf nv).toNat)
  case atStart => exact ⟨0,m4,k7,0,e7,none,[],rfl,by omega,rfl,HI0,HR0⟩
  obtain ⟨i,j,k,c,e,A,l,rfl,hij,hil,HI,HR⟩:=hrel
  clear HI0 HR0
  obtain ⟨rc0,rc1,rc2,rf1,rf2⟩:=HR.out.1.rdr.cells
  by_cases hj:j = 0
  ·subst hj
   have hL:Hid (InvN 47 30 r (w.heap.size + 1) s w (w.heap.size + 2) k e #[.slice A2 x2.length c2,.slice A4 x4.length c4,.slice A6 x6.length c6,.slice A l.length c] wr∧Res (be vrR) s k6 e6 l k e∧Slv vrP 2 wr (aB (w.heap.size + 2) wr) (.slice A l.length c) l∧wr.heap[w.heap.size]? = some (.cells #[.slice none 0 0,.slice none 0 0,.slice none 0 0,.slice none 0 0] 47 (0,0))∧Slv styP 6 wr (aB (w.heap.size + 2) wr) (.slice A2 x2.length c2) x2∧Slv lstP 2 wr (aB (w.heap.size + 2) wr) (.slice A4 x4.length c4) x4∧Slv cmtP 6 wr (aB (w.heap.size + 2) wr) (.slice A6 x6.length c6) x6):=qH ⟨by have h:=HR.out.1; rw [hil]; exact h,HS4.out.list (by have h3:=HR.out.2.2.1; rw [show i = m4 by omega] at h3; exact h3),by have h:=(HI.out.slv stb_vr).since stb_vr hab4; rw [hil]; exact h,HR.out.2.2.2.1,Slv.unbet aF HR.out.2.2.2.2.1 HR.out.2.1,Slv.unbet aL HR.out.2.2.2.2.2.1 HR.out.2.1,Slv.unbet aY HR.out.2.2.2.2.2.2 HR.out.2.1⟩
   clear HI HR HS4 hij
   go_wp2_with fail
   go_meet
   exact ⟨k,e,c,A,l,hL⟩
  have hj1:(0:Int) < (j:Int):=by omega
  have hj2:decide ((0:Int) < (j:Int)) = true:=by simpa using hj1
  have hj3:0 < j:=by omega
  rcases Int.decEq e 0 with he | he
  ·have d0:(e == 0) = false:=by simpa using he
   have hL:Hid (InvN 47 30 r (w.heap.size + 1) s w (w.heap.size + 2) k e #[.slice A2 x2.length c2,.slice A4 x4.length c4,.slice A6 x6.length c6,.slice A l.length c] wr∧Res (be vrR) s k6 e6 l k e∧Slv vrP 2 wr (aB (w.heap.size + 2) wr) (.slice A l.length c) l∧wr.heap[w.heap.size]? = some (.cells #[.slice none 0 0,.slice none 0 0,.slice none 0 0,.slice none 0 0] 47 (0,0))∧Slv styP 6 wr (aB (w.heap.size + 2) wr) (.slice A2 x2.length c2) x2∧Slv lstP 2 wr (aB (w.heap.size + 2) wr) (.slice A4 x4.length c4) x4∧Slv cmtP 6 wr (aB (w.heap.size + 2) wr) (.slice A6 x6.length c6) x6):=qH ⟨by have h:=HR.out.1; rw [hil]; exact h,HS4.out.list (HR.out.2.2.1.manyErr he (by omega)),by have h:=(HI.out.slv stb_vr).since stb_vr hab4; rw [hil]; exact h,HR.out.2.2.2.1,Slv.unbet aF HR.out.2.2.2.2.1 HR.out.2.1,Slv.unbet aL HR.out.2.2.2.2.2.1 HR.out.2.1,Slv.unbet aY HR.out.2.2.2.2.2.2 HR.out.2.1⟩
   clear HI HR HS4 hij
   go_wp2_with fail
   go_meet
   exact ⟨k,e,c,A,l,hL⟩
  subst he
  obtain ⟨jj,hjj⟩:∃ jj,j = jj + 1:=⟨j - 1,by omega⟩
  have wj:IntKind.i64.wrap ((j:Int) - 1) = (jj:Int):=by rw [IntKind.wrap_i64] <;> omega
  have hk:k≤s.size:=HR.out.1.le
  have hbr:b4≤wr.heap.size:=HR.out.2.1
  have hra:r < w.heap.size + 2:=HR.out.1.ra
  have hga:w.heap.size + 1 < w.heap.size + 2:=HR.out.1.ga
  have Hjj:=qH hjj
  have hij2:i + jj + 1 = m4:=by omega
  clear hj hjj hij
  have hr0:=HR.out.1.rdr
  have hg0:=av wr (some r)
  go_upto_region 41 with fail
  refine ac (by rfl) ?_
  simp only [List.map]
  clear rc0 rc1 rf1 rf2 rc2
  refine sq1p r 0 ?_
  refine af 74 #[.pointer (some ⟨r,0,none⟩)] (by go_simp) ?_
  refine Calls.mono (text74 r k s 0 _ hr0 hk (by omega)) ?_
  rintro e wd1 ⟨x1d,k1d,e1d,rfl,hx1d,hr1,hg,hs1d⟩
  replace hg0:=an hg0 hg
  have hk1d:k1d≤s.size:=hs1d.1
  clear hr0 hg
  refine ⟨_,rfl,trivial,?_⟩
  simp only [Act.put,PutA,PutZ,PutS]
  refine sq1 (.string x1d) ?_
  refine ad ?_
  have hI1:=HR.out.1.call hr1 hk1d hg0
  have HL1:=HI.out.grow stb_vr hg0 (Nat.lt_of_lt_of_le hra hab4)
  have hZ1:=(hg0.block _ (ae HR.out.2.2.2.1) (fun q => by injection q with q; omega)).trans HR.out.2.2.2.1
  have hF0:=Slv.bet_grow aF HR.out.2.2.2.2.1 hg0 hra
  have hF1:=Slv.bet_grow aL HR.out.2.2.2.2.2.1 hg0 hra
  have hF2:=Slv.bet_grow aY HR.out.2.2.2.2.2.2 hg0 hra
  go_upto_region 42 with fail
  refine wp_region_tg (S:=fun w' => w'.cell? ⟨w.heap.size + 1,3,none⟩ = some (.slice A i c)) 7 [(0,0),(1,1),(0,2),(0,3),(2,4),(0,5),(2,6),(3,7),(0,8),(3,9)] (by kernel_rfl) (by kernel_rfl) (aa hI1.blk 3) ?_
  simp only [pickT,List.getElem?_cons_succ,List.getElem?_cons_zero]
  replace hI1:=hI1.drew
  replace HL1:=HL1.drew stb_vr
  replace hZ1:wd1.drew.heap[w.heap.size]? = _:=hZ1
  replace hF0:=Slv.bet_drew aF hF0
  replace hF1:=Slv.bet_drew aL hF1
  replace hF2:=Slv.bet_drew aY hF2
  refine aW (.pointer (some ⟨w.heap.size + 1,3,none⟩)) (fun w' => by go_simp) ?_
  simp only [Act.put,PutA,PutZ,PutS]
  refine tg_load (.slice A i c) (fun w' hS => by go_simp) ?_
  simp only [Act.put,PutA,PutZ,PutS]
  refine aW (.string x1d) (fun w' => by go_simp) ?_
  simp only [Act.put,PutA,PutZ,PutS]
  refine aW (.pointer (some ⟨r,0,none⟩)) (fun w' => by go_simp) ?_
  simp only [Act.put,PutA,PutZ,PutS]
  refine tg_run ?_
  refine af 74 #[.pointer (some ⟨r,0,none⟩)] (by go_simp) ?_
  refine Calls.mono (text74 r k1d s e1d _ hI1.rdr hI1.le (by omega)) ?_
  rintro e wd2 ⟨x2d,k2d,e2d,rfl,hx2d,hr2,hg,hs2d⟩
  replace hI1:=hI1.call hr2 hs2d.1 hg
  replace HL1:=HL1.grow stb_vr hg (Nat.lt_of_lt_of_le hra hab4)
  replace hZ1:=(hg.block _ (ae hZ1) (fun q => by injection q with q; omega)).trans hZ1
  replace hF0:=Slv.bet_grow aF hF0 hg hra
  replace hF1:=Slv.bet_grow aL hF1 hg hra
  replace hF2:=Slv.bet_grow aY hF2 hg hra
  have hbw2:b4≤wd2.heap.size:=Nat.le_trans hbr (Nat.le_trans hg0.size hg.size)
  clear hr2 hg
  refine ⟨_,rfl,aa hI1.blk 3,ad ?_⟩
  show wpTg _ _ _ _ _ _
  simp only [Act.put,PutA,PutZ,PutS]
  refine aW (.agg #[.string x1d,.string x2d]) (fun w' => by go_simp) ?_
  simp only [Act.put,PutA,PutZ,PutS]
  refine tg_run ?_
  refine au (.slice (some ⟨wd2.heap.size,0,none⟩) 1 1) (wd2.alloc (.cells #[.string x1d,.string x2d] 116)) (by go_simp) (aa (hI1.alloc _).blk 3) (ad ?_)
  show wpTg _ _ _ _ _ _
  simp only [Act.put,PutA,PutZ,PutS]
  refine tg_late ?_
  refine sq_push stb_vr _ _ 45 32 wd2.heap.size 1 rfl rfl Tryz.underlying45 info116x (by decide) [.string x1d,.string x2d] (x1d,x2d) HL1 rfl rfl (by simp [Value.oneCell']) ⟨rfl,Nat.le_trans hx1d (by omega),Nat.le_trans hx2d (by omega)⟩ (fun g hg => (HL1.own_ge g hg).2) hbw2 hbw2 rfl (by rw [hil]; omega) (by rw [hil]; omega) ?_
  intro v2 w2 hl2 hb2
  obtain ⟨Ax,c2x,hv2⟩:=hl2.shape
  rw [List.length_append,hil] at hv2
  subst hv2
  have hI2:=hI1.below hb2 hab4
  have hZ2:=(hb2.block _ (show w.heap.size < b4 by omega)).trans hZ1
  replace hF0:=Slv.bet_below aF hF0 hb2
  replace hF1:=Slv.bet_below aL hF1 hb2
  replace hF2:=Slv.bet_below aY hF2 hb2
  have hbw3:=Nat.le_trans hbw2 hb2.size
  refine ⟨trivial,ad ?_⟩
  show wpTg _ _ _ _ _ _
  simp only [Act.put,PutA,PutZ,PutS]
  refine aW (.pointer (some ⟨w.heap.size + 1,3,none⟩)) (fun w' => by go_simp) ?_
  simp only [Act.put,PutA,PutZ,PutS]
  refine tg_late ?_
  refine aj 45 _ _ rfl rfl (w.heap.size + 1) 3 47 _ #[.slice A2 x2.length c2,.slice A4 x4.length c4,.slice A6 x6.length c6,.slice Ax (i + 1) c2x] [.slice Ax (i + 1) c2x] rfl rfl hI2.blk sz45 (one1 rfl) rfl (by simp) ?_
  intro w3 hb hg
  replace hI2:=hI2.store hb hg
  replace hZ2:=(hg.block _ (ae hZ2) (fun q => by injection q with q; omega)).trans hZ2
  have HL3:Hid (LstI vrP 2 116 b4 (.slice Ax (i + 1) c2x) (l++[(x1d,x2d)]) w3):=qH (hl2.grow stb_vr hg (Nat.lt_of_lt_of_le hga hab4))
  replace hF0:=Slv.bet_grow aF hF0 hg hga
  replace hF1:=Slv.bet_grow aL hF1 hg hga
  replace hF2:=Slv.bet_grow aY hF2 hg hga
  have HR3:Hid (InvN 47 30 r (w.heap.size + 1) s w (w.heap.size + 2) k2d e2d #[.slice A2 x2.length c2,.slice A4 x4.length c4,.slice A6 x6.length c6,.slice Ax (i + 1) c2x] w3∧b4≤w3.heap.size∧Res (aR vrR (i + 1)) s k7 e7 (l++[(x1d,x2d)]) k2d e2d∧w3.heap[w.heap.size]? = some (.cells #[.slice none 0 0,.slice none 0 0,.slice none 0 0,.slice none 0 0] 47 (0,0))∧Slv styP 6 w3 (Bet (w.heap.size + 2) b4) (.slice A2 x2.length c2) x2∧Slv lstP 2 w3 (Bet (w.heap.size + 2) b4) (.slice A4 x4.length c4) x4∧Slv cmtP 6 w3 (Bet (w.heap.size + 2) b4) (.slice A6 x6.length c6) x6):=qH ⟨hI2,Nat.le_trans hbw3 hg.size,HR.out.2.2.1.snoc (hs1d.seq hs2d),hZ2,hF0,hF1,hF2⟩
  refine ⟨trivial,ad ?_⟩
  show wpTg _ _ _ _ _ _
  refine tg_done ?_
  clear hl2 hb2 HL1 hI1 hI2 hZ1 hZ2 hg hb hg0 hF0 hF1 hF2
  clear HI HR
  go_wp2_with fail
  go_roundw
  case rel => exact ⟨i + 1,jj,k2d,c2x,e2d,Ax,l++[(x1d,x2d)],by go_num,by omega,by simp [hil],HL3,HR3⟩
  rw [Hjj.out]; simp [intOf]
 obtain ⟨k8,e8,c8,A8,x8,hH⟩:=hcut
 obtain ⟨I8,hs8,F8,HZ,F2,F4,F6⟩:=hH.out
 clear hH
 have FR:stgP _ (aB (w.heap.size + 2) _) [.slice A2 x2.length c2,.slice A4 x4.length c4,.slice A6 x6.length c6,.slice A8 x8.length c8] (x2,x4,x6,x8):=⟨_,_,_,_,rfl,F2,F4,F6,F8⟩
 have hone:=one_stg _ _ _ _ FR
 clear F2 F4 F6 F8
 go_upto_region 43 with fail
 refine ac (by rfl) ?_
 simp only [List.map]
 refine ar 47 _ rfl (w.heap.size + 1) 47 #[.slice A2 x2.length c2,.slice A4 x4.length c4,.slice A6 x6.length c6,.slice A8 x8.length c8] _ rfl I8.blk Tryz.underlying47 rfl size47 trivial ?_
 simp only [Act.put,PutA,PutZ,PutS]
 refine as_ 47 _ _ rfl rfl (w.heap.size) 47 _ [.slice A2 x2.length c2,.slice A4 x4.length c4,.slice A6 x6.length c6,.slice A8 x8.length c8] rfl rfl HZ size47 hone rfl ?_
 intro w' hb hg
 have hR2:=Stb.grow stb_stg hg (by omega) FR
 have hr2:=(hg.block r (ae I8.rdr) (fun q => by injection q with q; omega)).trans I8.rdr
 have hG2:w.grownBy w' (some r):=⟨hg.os.trans I8.grown.os,hg.tape.trans I8.grown.tape,hg.output.trans I8.grown.output,Nat.le_trans I8.grown.size hg.size,fun i hi hn => (hg.block i (Nat.lt_of_lt_of_le hi I8.grown.size) (fun q => by injection q with q; omega)).trans (I8.grown.block i hi hn)⟩
 refine ⟨trivial,ad ?_⟩
 clear hg
 go_wp2_with fail
 refine bodyPost_ret (v:=.agg #[.slice A2 x2.length c2,.slice A4 x4.length c4,.slice A6 x6.length c6,.slice A8 x8.length c8]) (results_cell_row rfl _ _ (w.heap.size) 47 #[.slice A2 x2.length c2,.slice A4 x4.length c4,.slice A6 x6.length c6,.slice A8 x8.length c8] (0,0) _ rfl hb Tryz.underlying47 rfl size47) rfl ?_
 exact ⟨[.slice A2 x2.length c2,.slice A4 x4.length c4,.slice A6 x6.length c6,.slice A8 x8.length c8],(x2,x4,x6,x8),k8,e8,rfl,rfl,hone,Stb.since stb_stg hR2 (by omega),hr2,hG2,(hs2.seq (hs4.seq (hs6.seq hs8)))⟩
end Go.Proofs.YtmhhcfceikcfbaaGreat
