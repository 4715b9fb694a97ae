/- Walks: the law's readers of cells, rows, items, pieces' lists. -/
import Derived.Test.YtmhhcfceikcfbaaGreatDeR9
import Derived.Test.YtmhhcfceikcfbaaGreatDeW8
namespace Go.Proofs.YtmhhcfceikcfbaaGreat
open Go.RowKit
set_option maxRecDepth 100000
set_option maxHeartbeats 4000000
def LItemsR {α:Type} (R:Rp α) (p:Rd α) (n:Nat) (s:ByteArray):Prop:=∀ (r k:Nat) (e:Int) (w:World),Rdr 30 r s k e w→k≤s.size→(e = 0→s.size - k < n) →
 Calls Tryz.prog 27 #[.pointer (some ⟨r,0,none⟩)] w (bq R p 11 30 r s k e w)
theorem lr94 {α:Type} (R:Rp α) (p:Rd α) (hR:Stb R) (n:Nat) (s:ByteArray) (hs:s.size≤549755813888) (HIT:LItemsR R p n s) (r k0:Nat) (e0:Int) (w:World) (h:Rdr 30 r s k0 e0 w) (hk0:k0≤s.size) (hn:e0 = 0→s.size - k0 < n) :
  Calls Tryz.prog 94 #[.pointer (some ⟨r,0,none⟩)] w (bq (ceP R) (ceR p) 7 30 r s k0 e0 w):=by
 have hrw:=ae h
 have C:=qH (size73 r k0 s e0 w h hk0 (by omega))
 clear h
 go_enter Tryz.func94,Tryz.ntmps94
 go_wp2_with fail
 refine C.out.mono ?_
 rintro e w1 ⟨m,kz,ez,rfl,hkm,hn0,hr,hg,hsz⟩
 have HI0:Hid (LstI (ceP R) 7 174 w.heap.size (.slice none 0 0) [] w1):=qH (LstI.nil _ _ _ _ _)
 have HR0:Hid (Rdr 30 r s kz ez w1∧w.grownBy w1 (some r)∧Res (aR (ceR p) 0) s kz ez ([]:List (Int × Hd × List α)) kz ez):=qH ⟨hr,hg,Res.many0 _ _ _ _ hsz.1⟩
 have HS:=qH hsz
 have hms:m≤s.size:=by omega
 clear C hr hg hsz hn0 hkm
 go_wp2_with fail
 go_loopw [3,4] (fun ov nv wr => ∃ (i j k c:Nat) (e:Int) (A:Option Addr) (l:List (Int × Hd × List α)),ov = .slice A i c∧nv = .int .i64 (j:Int)∧i + j = m∧l.length = i∧Hid (LstI (ceP R) 7 174 w.heap.size (.slice A i c) l wr)∧Hid (Rdr 30 r s k e wr∧w.grownBy wr (some r)∧Res (aR (ceR p) i) s kz ez l k e)) (fun _ nv _ => (intOf nv).toNat)
 case atStart => exact ⟨0,m,kz,0,ez,none,[],rfl,rfl,by omega,rfl,HI0,HR0⟩
 obtain ⟨i,j,k,c,e,A,l,rfl,rfl,hij,hil,HI,HR⟩:=hrel
 clear HI0 HR0
 obtain ⟨c0,c1,c2,f1,f2⟩:=HR.out.1.cells
 by_cases hj:j = 0
 ·subst hj
  have hL:Hid (bq (ceP R) (ceR p) 7 30 r s k0 e0 w (.returned (.slice A i c)) wr):=qH ⟨_,l,k,e,rfl,HI.out.slv (bI hR),HR.out.1,HR.out.2.1,HS.out.list (by have h3:=HR.out.2.2; rw [show i = m by omega] at h3; exact h3)⟩
  clear HI HR HS hij hil
  go_wp2_with fail
  go_ret
  exact hL.out
 have hj1:(0:Int) < (j:Int):=by omega
 have hj2:decide ((0:Int) < (j:Int)) = true:=by simpa using hj1
 have hj3:0 < j:=by omega
 rcases Int.decEq e 0 with he | he
 ·have d0:(e == 0) = false:=by simpa using he
  have hL:Hid (bq (ceP R) (ceR p) 7 30 r s k0 e0 w (.returned (.slice A i c)) wr):=qH ⟨_,l,k,e,rfl,HI.out.slv (bI hR),HR.out.1,HR.out.2.1,HS.out.list (HR.out.2.2.manyErr he (by omega))⟩
  clear HI HR HS hij hil
  go_wp2_with fail
  go_ret
  exact hL.out
 subst he
 obtain ⟨jj,hjj⟩:∃ jj,j = jj + 1:=⟨j - 1,by omega⟩
 have wj:IntKind.i64.wrap ((j:Int) - 1) = (jj:Int):=by rw [IntKind.wrap_i64] <;> omega
 have hbw:w.heap.size≤wr.heap.size:=HR.out.2.1.size
 have hrl:r < wr.heap.size:=by omega
 have hk:k≤s.size:=HR.out.2.2.1
 have Hjj:=qH hjj
 have hij2:i + jj + 1 = m:=by omega
 clear hj hjj hij
 have I0:InvN 174 30 r wr.heap.size s wr (wr.heap.size + 1) k 0 #[.int .i64 0,.slice none 0 0,.int .i64 0,.int .i64 0,.slice none 0 0,.slice none 0 0,.slice none 0 0] (wr.alloc (.cells #[.int .i64 0,.slice none 0 0,.int .i64 0,.int .i64 0,.slice none 0 0,.slice none 0 0,.slice none 0 0] 174)):=⟨HR.out.1.alloc _,hk,heap_alloc_new wr _,ap (av wr (some r)) _,by omega,Nat.le_refl _,by omega,by omega,by simp⟩
 have D0:(0:Int) = 0→s.size - k < n:=fun _ => by
  have h1:=HR.out.2.2.le
  have h2:=HR.out.2.2.ok0.1
  have h3:=HS.out
  rw [h2] at h3
  have h4:=h3.szPos
  have h5:=hn h4.1
  omega
 obtain ⟨k_0,hk_0⟩:=gX (k)
 rw [<- hk_0] at I0 D0
 clear c0 c1 f1 f2
 go_upto_region 6 with fail
 refine ac (by rfl) ?_
 simp only [List.map]
 refine sq1p r 0 ?_
 refine af 17 #[.pointer (some ⟨r,0,none⟩)] (by go_simp) ?_
 refine Calls.mono (aD r k_0 s 0 _ I0.rdr I0.le (by omega)) ?_
 rintro e w1 ⟨x1,k1,e1,rfl,hx1,h1,hg,hs1⟩
 have I1:=I0.call h1 hs1.1 hg
 clear I0 h1 hg
 have D1:=aN D0 hs1
 clear D0
 refine ⟨_,rfl,trivial,?_⟩
 simp only [Act.put,PutA,PutZ,PutS]
 refine sq1p (wr.heap.size) 0 ?_
 refine aj 3 _ _ rfl rfl (wr.heap.size) 0 174 _ #[.int .i64 x1,.slice none 0 0,.int .i64 0,.int .i64 0,.slice none 0 0,.slice none 0 0,.slice none 0 0] [.int .i64 x1] rfl rfl I1.blk sz3 (one1 rfl) rfl (by simp) ?_
 intro w' hb hg
 replace I1:=I1.store hb hg
 clear hb hg
 refine ⟨trivial,?_⟩
 refine ad ?_
 go_upto_region 7 with fail
 refine ac (by rfl) ?_
 simp only [List.map]
 refine sq1p r 0 ?_
 refine af 75 #[.pointer (some ⟨r,0,none⟩)] (by go_simp) ?_
 refine Calls.mono (lr75 r k1 s e1 _ I1.rdr I1.le hs) ?_
 rintro e w2 ⟨vs2,x2,k2,e2,rfl,hl2,ho2,hR2,h2,hg,hs2⟩
 obtain ⟨u2_0,u2_1,u2_2,u2_3,u2_4,rfl⟩:=len_5 hl2
 have F2:=Stb.since ay hR2 I1.aw
 clear hR2
 have I2:=I1.call h2 hs2.1 hg
 clear I1 h2 hg
 have D2:=aN D1 hs2
 clear D1
 refine ⟨_,rfl,trivial,?_⟩
 simp only [Act.put,PutA,PutZ,PutS]
 refine sq1p (wr.heap.size) 1 ?_
 refine aj 40 _ _ rfl rfl (wr.heap.size) 1 174 _ #[.int .i64 x1,u2_0,u2_1,u2_2,u2_3,u2_4,.slice none 0 0] [u2_0,u2_1,u2_2,u2_3,u2_4] rfl rfl I2.blk sz40 (by first | assumption | simp [Value.oneCell']) rfl (by simp) ?_
 intro w' hb hg
 replace F2:=Stb.grow ay hg (I2.ga) F2
 replace I2:=I2.store hb hg
 clear hb hg
 refine ⟨trivial,?_⟩
 refine ad ?_
 go_upto_region 8 with fail
 refine ac (by rfl) ?_
 simp only [List.map]
 refine sq1p r 0 ?_
 refine af 27 #[.pointer (some ⟨r,0,none⟩)] (by go_simp) ?_
 refine Calls.mono (HIT r k2 e2 _ I2.rdr I2.le D2) ?_
 rintro e w3 ⟨v3,x3,k3,e3,rfl,hR3,h3,hg,hs3⟩
 obtain ⟨A3,c3,hv3,_,_⟩:=hR3.shape
 subst hv3
 replace F2:=Stb.grow ay hg (I2.ra) F2
 have F3:=Slv.since hR hR3 I2.aw
 clear hR3
 have I3:=I2.call h3 hs3.1 hg
 clear I2 h3 hg
 have D3:=aN D2 hs3
 clear D2
 refine ⟨_,rfl,trivial,?_⟩
 simp only [Act.put,PutA,PutZ,PutS]
 refine sq1p (wr.heap.size) 6 ?_
 refine aj 33 _ _ rfl rfl (wr.heap.size) 6 174 _ #[.int .i64 x1,u2_0,u2_1,u2_2,u2_3,u2_4,.slice A3 x3.length c3] [.slice A3 x3.length c3] rfl rfl I3.blk sz33 (one1 rfl) rfl (by simp) ?_
 intro w' hb hg
 replace F2:=Stb.grow ay hg (I3.ga) F2
 replace F3:=Slv.grow hR F3 hg (I3.ga)
 replace I3:=I3.store hb hg
 clear hb hg
 refine ⟨trivial,?_⟩
 refine ad ?_
 have FR:(ceP R) _ (aB (wr.heap.size + 1) _) [.int .i64 x1,u2_0,u2_1,u2_2,u2_3,u2_4,.slice A3 x3.length c3] (x1,x2,x3):=⟨_,_,_,_,_,_,rfl,hx1,F2,F3⟩
 clear F2 F3
 have hone:=one_ce _ _ _ _ FR
 go_upto_region 9 with fail
 refine ac (by rfl) ?_
 simp only [List.map]
 refine sq1 (.slice A i c) ?_
 refine ar 174 _ rfl (wr.heap.size) 174 #[.int .i64 x1,u2_0,u2_1,u2_2,u2_3,u2_4,.slice A3 x3.length c3] _ rfl I3.blk Tryz.underlying174 rfl size174 trivial ?_
 simp only [Act.put,PutA,PutZ,PutS]
 refine au (.slice (some ⟨w'.heap.size,0,none⟩) 1 1) (w'.alloc (.cells #[.int .i64 x1,u2_0,u2_1,u2_2,u2_3,u2_4,.slice A3 x3.length c3] 174)) (by go_simp) trivial ?_
 simp only [Act.put,PutA,PutZ,PutS]
 refine sq_push (bI hR) _ _ 66 120 (wr.heap.size + 1) 1 rfl rfl Tryz.underlying66 info174x (by decide) [.int .i64 x1,u2_0,u2_1,u2_2,u2_3,u2_4,.slice A3 x3.length c3] (x1,x2,x3) (HI.out.grow (bI hR) I3.grown hrw) rfl rfl hone FR (fun g hg => by have:=(HI.out.own_ge g hg).2; omega) (by omega) (Nat.le_trans hbw I3.grown.size) rfl (by rw [hil]; omega) (by rw [hil]; omega) ?_
 intro v2 w2 hl2 hb2
 have HR2:Hid (Rdr 30 r s k3 e3 w2∧w.grownBy w2 (some r)∧Res (aR (ceR p) (i + 1)) s kz ez (l++[(x1,x2,x3)]) k3 e3):=qH ⟨(hb2.block r hrw).trans I3.rdr,grown_below (an HR.out.2.1 I3.grown) hb2 (Nat.le_refl _),HR.out.2.2.snoc (by rw [<- hk_0]; exact (hs1.seq (hs2.seq hs3)))⟩
 obtain ⟨A2,c2x,hv2⟩:=hl2.shape
 rw [List.length_append,hil] at hv2
 subst hv2
 have HI2:Hid (LstI (ceP R) 7 174 w.heap.size (.slice A2 (i + 1) c2x) (l++[(x1,x2,x3)]) w2):=qH hl2
 refine ⟨trivial,?_⟩
 simp only [Act.put,PutA,PutZ,PutS]
 refine sq1 (.slice A2 (i + 1) c2x) ?_
 refine ad ?_
 clear hl2 hb2 HI HR
 go_wp2_with fail
 go_roundw
 case rel => exact ⟨i + 1,jj,k3,c2x,e3,A2,l++[(x1,x2,x3)],rfl,by go_num,by omega,by simp [hil],HI2,HR2⟩
 rw [Hjj.out]; simp [intOf]
theorem lr76 {α:Type} (R:Rp α) (p:Rd α) (hR:Stb R) (n:Nat) (s:ByteArray) (hs:s.size≤549755813888) (HIT:LItemsR R p n s) (r k0:Nat) (e0:Int) (w:World) (h:Rdr 30 r s k0 e0 w) (hk0:k0≤s.size) (hn:e0 = 0→s.size - k0 < n) :
  Calls Tryz.prog 76 #[.pointer (some ⟨r,0,none⟩)] w (bq (rwP R) (rwR p) 6 30 r s k0 e0 w):=by
 have hrw:=ae h
 have C:=qH (size73 r k0 s e0 w h hk0 (by omega))
 clear h
 go_enter Tryz.func76,Tryz.ntmps76
 go_wp2_with fail
 refine C.out.mono ?_
 rintro e w1 ⟨m,kz,ez,rfl,hkm,hn0,hr,hg,hsz⟩
 have HI0:Hid (LstI (rwP R) 6 156 w.heap.size (.slice none 0 0) [] w1):=qH (LstI.nil _ _ _ _ _)
 have HR0:Hid (Rdr 30 r s kz ez w1∧w.grownBy w1 (some r)∧Res (aR (rwR p) 0) s kz ez ([]:List (Hd × List (Int × Hd × List α))) kz ez):=qH ⟨hr,hg,Res.many0 _ _ _ _ hsz.1⟩
 have HS:=qH hsz
 have hms:m≤s.size:=by omega
 clear C hr hg hsz hn0 hkm
 go_wp2_with fail
 go_loopw [3,4] (fun ov nv wr => ∃ (i j k c:Nat) (e:Int) (A:Option Addr) (l:List (Hd × List (Int × Hd × List α))),ov = .slice A i c∧nv = .int .i64 (j:Int)∧i + j = m∧l.length = i∧Hid (LstI (rwP R) 6 156 w.heap.size (.slice A i c) l wr)∧Hid (Rdr 30 r s k e wr∧w.grownBy wr (some r)∧Res (aR (rwR p) i) s kz ez l k e)) (fun _ nv _ => (intOf nv).toNat)
 case atStart => exact ⟨0,m,kz,0,ez,none,[],rfl,rfl,by omega,rfl,HI0,HR0⟩
 obtain ⟨i,j,k,c,e,A,l,rfl,rfl,hij,hil,HI,HR⟩:=hrel
 clear HI0 HR0
 obtain ⟨c0,c1,c2,f1,f2⟩:=HR.out.1.cells
 by_cases hj:j = 0
 ·subst hj
  have hL:Hid (bq (rwP R) (rwR p) 6 30 r s k0 e0 w (.returned (.slice A i c)) wr):=qH ⟨_,l,k,e,rfl,HI.out.slv (bs hR),HR.out.1,HR.out.2.1,HS.out.list (by have h3:=HR.out.2.2; rw [show i = m by omega] at h3; exact h3)⟩
  clear HI HR HS hij hil
  go_wp2_with fail
  go_ret
  exact hL.out
 have hj1:(0:Int) < (j:Int):=by omega
 have hj2:decide ((0:Int) < (j:Int)) = true:=by simpa using hj1
 have hj3:0 < j:=by omega
 rcases Int.decEq e 0 with he | he
 ·have d0:(e == 0) = false:=by simpa using he
  have hL:Hid (bq (rwP R) (rwR p) 6 30 r s k0 e0 w (.returned (.slice A i c)) wr):=qH ⟨_,l,k,e,rfl,HI.out.slv (bs hR),HR.out.1,HR.out.2.1,HS.out.list (HR.out.2.2.manyErr he (by omega))⟩
  clear HI HR HS hij hil
  go_wp2_with fail
  go_ret
  exact hL.out
 subst he
 obtain ⟨jj,hjj⟩:∃ jj,j = jj + 1:=⟨j - 1,by omega⟩
 have wj:IntKind.i64.wrap ((j:Int) - 1) = (jj:Int):=by rw [IntKind.wrap_i64] <;> omega
 have hbw:w.heap.size≤wr.heap.size:=HR.out.2.1.size
 have hrl:r < wr.heap.size:=by omega
 have hk:k≤s.size:=HR.out.2.2.1
 have Hjj:=qH hjj
 have hij2:i + jj + 1 = m:=by omega
 clear hj hjj hij
 have I0:InvN 156 30 r wr.heap.size s wr (wr.heap.size + 1) k 0 #[.slice none 0 0,.int .i64 0,.int .i64 0,.slice none 0 0,.slice none 0 0,.slice none 0 0] (wr.alloc (.cells #[.slice none 0 0,.int .i64 0,.int .i64 0,.slice none 0 0,.slice none 0 0,.slice none 0 0] 156)):=⟨HR.out.1.alloc _,hk,heap_alloc_new wr _,ap (av wr (some r)) _,by omega,Nat.le_refl _,by omega,by omega,by simp⟩
 have D0:(0:Int) = 0→s.size - k < n:=fun _ => by
  have h1:=HR.out.2.2.le
  have h2:=HR.out.2.2.ok0.1
  have h3:=HS.out
  rw [h2] at h3
  have h4:=h3.szPos
  have h5:=hn h4.1
  omega
 obtain ⟨k_0,hk_0⟩:=gX (k)
 rw [<- hk_0] at I0 D0
 clear c0 c1 f1 f2
 go_upto_region 6 with fail
 refine ac (by rfl) ?_
 simp only [List.map]
 refine sq1p r 0 ?_
 refine af 75 #[.pointer (some ⟨r,0,none⟩)] (by go_simp) ?_
 refine Calls.mono (lr75 r k_0 s 0 _ I0.rdr I0.le hs) ?_
 rintro e w1 ⟨vs1,x1,k1,e1,rfl,hl1,ho1,hR1,h1,hg,hs1⟩
 obtain ⟨u1_0,u1_1,u1_2,u1_3,u1_4,rfl⟩:=len_5 hl1
 have F1:=Stb.since ay hR1 I0.aw
 clear hR1
 have I1:=I0.call h1 hs1.1 hg
 clear I0 h1 hg
 have D1:=aN D0 hs1
 clear D0
 refine ⟨_,rfl,trivial,?_⟩
 simp only [Act.put,PutA,PutZ,PutS]
 refine sq1p (wr.heap.size) 0 ?_
 refine aj 40 _ _ rfl rfl (wr.heap.size) 0 156 _ #[u1_0,u1_1,u1_2,u1_3,u1_4,.slice none 0 0] [u1_0,u1_1,u1_2,u1_3,u1_4] rfl rfl I1.blk sz40 (by first | assumption | simp [Value.oneCell']) rfl (by simp) ?_
 intro w' hb hg
 replace F1:=Stb.grow ay hg (I1.ga) F1
 replace I1:=I1.store hb hg
 clear hb hg
 refine ⟨trivial,?_⟩
 refine ad ?_
 go_upto_region 7 with fail
 refine ac (by rfl) ?_
 simp only [List.map]
 refine sq1p r 0 ?_
 refine af 94 #[.pointer (some ⟨r,0,none⟩)] (by go_simp) ?_
 refine Calls.mono (lr94 R p hR n s hs HIT r k1 e1 _ I1.rdr I1.le D1) ?_
 rintro e w2 ⟨v2,x2,k2,e2,rfl,hR2,h2,hg,hs2⟩
 obtain ⟨A2,c2,hv2,_,_⟩:=hR2.shape
 subst hv2
 replace F1:=Stb.grow ay hg (I1.ra) F1
 have F2:=Slv.since (bI hR) hR2 I1.aw
 clear hR2
 have I2:=I1.call h2 hs2.1 hg
 clear I1 h2 hg
 have D2:=aN D1 hs2
 clear D1
 refine ⟨_,rfl,trivial,?_⟩
 simp only [Act.put,PutA,PutZ,PutS]
 refine sq1p (wr.heap.size) 5 ?_
 refine aj 66 _ _ rfl rfl (wr.heap.size) 5 156 _ #[u1_0,u1_1,u1_2,u1_3,u1_4,.slice A2 x2.length c2] [.slice A2 x2.length c2] rfl rfl I2.blk sz66 (one1 rfl) rfl (by simp) ?_
 intro w' hb hg
 replace F1:=Stb.grow ay hg (I2.ga) F1
 replace F2:=Slv.grow (bI hR) F2 hg (I2.ga)
 replace I2:=I2.store hb hg
 clear hb hg
 refine ⟨trivial,?_⟩
 refine ad ?_
 have FR:(rwP R) _ (aB (wr.heap.size + 1) _) [u1_0,u1_1,u1_2,u1_3,u1_4,.slice A2 x2.length c2] (x1,x2):=⟨_,_,_,_,_,_,rfl,F1,F2⟩
 clear F1 F2
 have hone:=one_rw _ _ _ _ FR
 go_upto_region 8 with fail
 refine ac (by rfl) ?_
 simp only [List.map]
 refine sq1 (.slice A i c) ?_
 refine ar 156 _ rfl (wr.heap.size) 156 #[u1_0,u1_1,u1_2,u1_3,u1_4,.slice A2 x2.length c2] _ rfl I2.blk Tryz.underlying156 rfl size156 trivial ?_
 simp only [Act.put,PutA,PutZ,PutS]
 refine au (.slice (some ⟨w'.heap.size,0,none⟩) 1 1) (w'.alloc (.cells #[u1_0,u1_1,u1_2,u1_3,u1_4,.slice A2 x2.length c2] 156)) (by go_simp) trivial ?_
 simp only [Act.put,PutA,PutZ,PutS]
 refine sq_push (bs hR) _ _ 51 112 (wr.heap.size + 1) 1 rfl rfl Tryz.underlying51 info156x (by decide) [u1_0,u1_1,u1_2,u1_3,u1_4,.slice A2 x2.length c2] (x1,x2) (HI.out.grow (bs hR) I2.grown hrw) rfl rfl hone FR (fun g hg => by have:=(HI.out.own_ge g hg).2; omega) (by omega) (Nat.le_trans hbw I2.grown.size) rfl (by rw [hil]; omega) (by rw [hil]; omega) ?_
 intro v2 w2 hl2 hb2
 have HR2:Hid (Rdr 30 r s k2 e2 w2∧w.grownBy w2 (some r)∧Res (aR (rwR p) (i + 1)) s kz ez (l++[(x1,x2)]) k2 e2):=qH ⟨(hb2.block r hrw).trans I2.rdr,grown_below (an HR.out.2.1 I2.grown) hb2 (Nat.le_refl _),HR.out.2.2.snoc (by rw [<- hk_0]; exact (hs1.seq hs2))⟩
 obtain ⟨A2,c2x,hv2⟩:=hl2.shape
 rw [List.length_append,hil] at hv2
 subst hv2
 have HI2:Hid (LstI (rwP R) 6 156 w.heap.size (.slice A2 (i + 1) c2x) (l++[(x1,x2)]) w2):=qH hl2
 refine ⟨trivial,?_⟩
 simp only [Act.put,PutA,PutZ,PutS]
 refine sq1 (.slice A2 (i + 1) c2x) ?_
 refine ad ?_
 clear hl2 hb2 HI HR
 go_wp2_with fail
 go_roundw
 case rel => exact ⟨i + 1,jj,k2,c2x,e2,A2,l++[(x1,x2)],rfl,by go_num,by omega,by simp [hil],HI2,HR2⟩
 rw [Hjj.out]; simp [intOf]
theorem lr27_step {α:Type} (R:Rp α) (p:Rd α) (hR:Stb R) (n:Nat) (s:ByteArray) (hs:s.size≤549755813888) (HIT:LItemsR R p n s) (r k0:Nat) (e0:Int) (w:World) (h:Rdr 30 r s k0 e0 w) (hk0:k0≤s.size) (hn:e0 = 0→s.size - k0 < n + 1) :
  Calls Tryz.prog 27 #[.pointer (some ⟨r,0,none⟩)] w (bq (isP R) (isR p) 11 30 r s k0 e0 w):=by
 have hrw:=ae h
 have C:=qH (size73 r k0 s e0 w h hk0 (by omega))
 clear h
 go_enter Tryz.func27,Tryz.ntmps27
 go_wp2_with fail
 refine C.out.mono ?_
 rintro e w1 ⟨m,kz,ez,rfl,hkm,hn0,hr,hg,hsz⟩
 have HI0:Hid (LstI (isP R) 11 53 w.heap.size (.slice none 0 0) [] w1):=qH (LstI.nil _ _ _ _ _)
 have HR0:Hid (Rdr 30 r s kz ez w1∧w.grownBy w1 (some r)∧Res (aR (isR p) 0) s kz ez ([]:List (ItS α)) kz ez):=qH ⟨hr,hg,Res.many0 _ _ _ _ hsz.1⟩
 have HS:=qH hsz
 have hms:m≤s.size:=by omega
 clear C hr hg hsz hn0 hkm
 go_wp2_with fail
 go_loopw [3,4] (fun ov nv wr => ∃ (i j k c:Nat) (e:Int) (A:Option Addr) (l:List (ItS α)),ov = .slice A i c∧nv = .int .i64 (j:Int)∧i + j = m∧l.length = i∧Hid (LstI (isP R) 11 53 w.heap.size (.slice A i c) l wr)∧Hid (Rdr 30 r s k e wr∧w.grownBy wr (some r)∧Res (aR (isR p) i) s kz ez l k e)) (fun _ nv _ => (intOf nv).toNat)
 case atStart => exact ⟨0,m,kz,0,ez,none,[],rfl,rfl,by omega,rfl,HI0,HR0⟩
 obtain ⟨i,j,k,c,e,A,l,rfl,rfl,hij,hil,HI,HR⟩:=hrel
 clear HI0 HR0
 obtain ⟨c0,c1,c2,f1,f2⟩:=HR.out.1.cells
 by_cases hj:j = 0
 ·subst hj
  have hL:Hid (bq (isP R) (isR p) 11 30 r s k0 e0 w (.returned (.slice A i c)) wr):=qH ⟨_,l,k,e,rfl,HI.out.slv (stb_is hR),HR.out.1,HR.out.2.1,HS.out.list (by have h3:=HR.out.2.2; rw [show i = m by omega] at h3; exact h3)⟩
  clear HI HR HS hij hil
  go_wp2_with fail
  go_ret
  exact hL.out
 have hj1:(0:Int) < (j:Int):=by omega
 have hj2:decide ((0:Int) < (j:Int)) = true:=by simpa using hj1
 have hj3:0 < j:=by omega
 rcases Int.decEq e 0 with he | he
 ·have d0:(e == 0) = false:=by simpa using he
  have hL:Hid (bq (isP R) (isR p) 11 30 r s k0 e0 w (.returned (.slice A i c)) wr):=qH ⟨_,l,k,e,rfl,HI.out.slv (stb_is hR),HR.out.1,HR.out.2.1,HS.out.list (HR.out.2.2.manyErr he (by omega))⟩
  clear HI HR HS hij hil
  go_wp2_with fail
  go_ret
  exact hL.out
 subst he
 obtain ⟨jj,hjj⟩:∃ jj,j = jj + 1:=⟨j - 1,by omega⟩
 have wj:IntKind.i64.wrap ((j:Int) - 1) = (jj:Int):=by rw [IntKind.wrap_i64] <;> omega
 have hbw:w.heap.size≤wr.heap.size:=HR.out.2.1.size
 have hrl:r < wr.heap.size:=by omega
 have hk:k≤s.size:=HR.out.2.2.1
 have Hjj:=qH hjj
 have hij2:i + jj + 1 = m:=by omega
 clear hj hjj hij
 have I0:InvN 53 30 r wr.heap.size s wr (wr.heap.size + 1) k 0 #[.int .i64 0,.int .i64 0,.int .i64 0,.string ⟨#[]⟩,.slice none 0 0,.int .i64 0,.int .i64 0,.slice none 0 0,.slice none 0 0,.slice none 0 0,.slice none 0 0] (wr.alloc (.cells #[.int .i64 0,.int .i64 0,.int .i64 0,.string ⟨#[]⟩,.slice none 0 0,.int .i64 0,.int .i64 0,.slice none 0 0,.slice none 0 0,.slice none 0 0,.slice none 0 0] 53)):=⟨HR.out.1.alloc _,hk,heap_alloc_new wr _,ap (av wr (some r)) _,by omega,Nat.le_refl _,by omega,by omega,by simp⟩
 have D0:(0:Int) = 0→s.size - k < n:=fun _ => by
  have h1:=HR.out.2.2.le
  have h2:=HR.out.2.2.ok0.1
  have h3:=HS.out
  rw [h2] at h3
  have h4:=h3.szPos
  have h5:=hn h4.1
  omega
 obtain ⟨k_0,hk_0⟩:=gX (k)
 rw [<- hk_0] at I0 D0
 clear c0 c1 f1 f2
 go_upto_region 6 with fail
 refine ac (by rfl) ?_
 simp only [List.map]
 refine sq1p r 0 ?_
 refine af 17 #[.pointer (some ⟨r,0,none⟩)] (by go_simp) ?_
 refine Calls.mono (aD r k_0 s 0 _ I0.rdr I0.le (by omega)) ?_
 rintro e w1 ⟨x1,k1,e1,rfl,hx1,h1,hg,hs1⟩
 have I1:=I0.call h1 hs1.1 hg
 clear I0 h1 hg
 have D1:=aN D0 hs1
 clear D0
 refine ⟨_,rfl,trivial,?_⟩
 simp only [Act.put,PutA,PutZ,PutS]
 refine sq1p (wr.heap.size) 0 ?_
 refine aj 3 _ _ rfl rfl (wr.heap.size) 0 53 _ #[.int .i64 x1,.int .i64 0,.int .i64 0,.string ⟨#[]⟩,.slice none 0 0,.int .i64 0,.int .i64 0,.slice none 0 0,.slice none 0 0,.slice none 0 0,.slice none 0 0] [.int .i64 x1] rfl rfl I1.blk sz3 (one1 rfl) rfl (by simp) ?_
 intro w' hb hg
 replace I1:=I1.store hb hg
 clear hb hg
 refine ⟨trivial,?_⟩
 refine ad ?_
 go_upto_region 7 with fail
 refine ac (by rfl) ?_
 simp only [List.map]
 refine sq1p r 0 ?_
 refine af 17 #[.pointer (some ⟨r,0,none⟩)] (by go_simp) ?_
 refine Calls.mono (aD r k1 s e1 _ I1.rdr I1.le (by omega)) ?_
 rintro e w2 ⟨x2,k2,e2,rfl,hx2,h2,hg,hs2⟩
 have I2:=I1.call h2 hs2.1 hg
 clear I1 h2 hg
 have D2:=aN D1 hs2
 clear D1
 refine ⟨_,rfl,trivial,?_⟩
 simp only [Act.put,PutA,PutZ,PutS]
 refine sq1p (wr.heap.size) 1 ?_
 refine aj 3 _ _ rfl rfl (wr.heap.size) 1 53 _ #[.int .i64 x1,.int .i64 x2,.int .i64 0,.string ⟨#[]⟩,.slice none 0 0,.int .i64 0,.int .i64 0,.slice none 0 0,.slice none 0 0,.slice none 0 0,.slice none 0 0] [.int .i64 x2] rfl rfl I2.blk sz3 (one1 rfl) rfl (by simp) ?_
 intro w' hb hg
 replace I2:=I2.store hb hg
 clear hb hg
 refine ⟨trivial,?_⟩
 refine ad ?_
 go_upto_region 8 with fail
 refine ac (by rfl) ?_
 simp only [List.map]
 refine sq1p r 0 ?_
 refine af 17 #[.pointer (some ⟨r,0,none⟩)] (by go_simp) ?_
 refine Calls.mono (aD r k2 s e2 _ I2.rdr I2.le (by omega)) ?_
 rintro e w3 ⟨x3,k3,e3,rfl,hx3,h3,hg,hs3⟩
 have I3:=I2.call h3 hs3.1 hg
 clear I2 h3 hg
 have D3:=aN D2 hs3
 clear D2
 refine ⟨_,rfl,trivial,?_⟩
 simp only [Act.put,PutA,PutZ,PutS]
 refine sq1p (wr.heap.size) 2 ?_
 refine aj 3 _ _ rfl rfl (wr.heap.size) 2 53 _ #[.int .i64 x1,.int .i64 x2,.int .i64 x3,.string ⟨#[]⟩,.slice none 0 0,.int .i64 0,.int .i64 0,.slice none 0 0,.slice none 0 0,.slice none 0 0,.slice none 0 0] [.int .i64 x3] rfl rfl I3.blk sz3 (one1 rfl) rfl (by simp) ?_
 intro w' hb hg
 replace I3:=I3.store hb hg
 clear hb hg
 refine ⟨trivial,?_⟩
 refine ad ?_
 go_upto_region 9 with fail
 refine ac (by rfl) ?_
 simp only [List.map]
 refine sq1p r 0 ?_
 refine af 74 #[.pointer (some ⟨r,0,none⟩)] (by go_simp) ?_
 refine Calls.mono (text74 r k3 s e3 _ I3.rdr I3.le (by omega)) ?_
 rintro e w4 ⟨x4,k4,e4,rfl,hx4,h4,hg,hs4⟩
 have I4:=I3.call h4 hs4.1 hg
 clear I3 h4 hg
 have D4:=aN D3 hs4
 clear D3
 refine ⟨_,rfl,trivial,?_⟩
 simp only [Act.put,PutA,PutZ,PutS]
 refine sq1p (wr.heap.size) 3 ?_
 refine aj 9 _ _ rfl rfl (wr.heap.size) 3 53 _ #[.int .i64 x1,.int .i64 x2,.int .i64 x3,.string x4,.slice none 0 0,.int .i64 0,.int .i64 0,.slice none 0 0,.slice none 0 0,.slice none 0 0,.slice none 0 0] [.string x4] rfl rfl I4.blk sz9 (one1 rfl) rfl (by simp) ?_
 intro w' hb hg
 replace I4:=I4.store hb hg
 clear hb hg
 refine ⟨trivial,?_⟩
 refine ad ?_
 go_upto_region 10 with fail
 refine ac (by rfl) ?_
 simp only [List.map]
 refine sq1p r 0 ?_
 refine af 75 #[.pointer (some ⟨r,0,none⟩)] (by go_simp) ?_
 refine Calls.mono (lr75 r k4 s e4 _ I4.rdr I4.le hs) ?_
 rintro e w5 ⟨vs5,x5,k5,e5,rfl,hl5,ho5,hR5,h5,hg,hs5⟩
 obtain ⟨u5_0,u5_1,u5_2,u5_3,u5_4,rfl⟩:=len_5 hl5
 have F5:=Stb.since ay hR5 I4.aw
 clear hR5
 have I5:=I4.call h5 hs5.1 hg
 clear I4 h5 hg
 have D5:=aN D4 hs5
 clear D4
 refine ⟨_,rfl,trivial,?_⟩
 simp only [Act.put,PutA,PutZ,PutS]
 refine sq1p (wr.heap.size) 4 ?_
 refine aj 40 _ _ rfl rfl (wr.heap.size) 4 53 _ #[.int .i64 x1,.int .i64 x2,.int .i64 x3,.string x4,u5_0,u5_1,u5_2,u5_3,u5_4,.slice none 0 0,.slice none 0 0] [u5_0,u5_1,u5_2,u5_3,u5_4] rfl rfl I5.blk sz40 (by first | assumption | simp [Value.oneCell']) rfl (by simp) ?_
 intro w' hb hg
 replace F5:=Stb.grow ay hg (I5.ga) F5
 replace I5:=I5.store hb hg
 clear hb hg
 refine ⟨trivial,?_⟩
 refine ad ?_
 go_upto_region 11 with fail
 refine ac (by rfl) ?_
 simp only [List.map]
 refine sq1p r 0 ?_
 refine af 27 #[.pointer (some ⟨r,0,none⟩)] (by go_simp) ?_
 refine Calls.mono (HIT r k5 e5 _ I5.rdr I5.le D5) ?_
 rintro e w6 ⟨v6,x6,k6,e6,rfl,hR6,h6,hg,hs6⟩
 obtain ⟨A6,c6,hv6,_,_⟩:=hR6.shape
 subst hv6
 replace F5:=Stb.grow ay hg (I5.ra) F5
 have F6:=Slv.since hR hR6 I5.aw
 clear hR6
 have I6:=I5.call h6 hs6.1 hg
 clear I5 h6 hg
 have D6:=aN D5 hs6
 clear D5
 refine ⟨_,rfl,trivial,?_⟩
 simp only [Act.put,PutA,PutZ,PutS]
 refine sq1p (wr.heap.size) 9 ?_
 refine aj 33 _ _ rfl rfl (wr.heap.size) 9 53 _ #[.int .i64 x1,.int .i64 x2,.int .i64 x3,.string x4,u5_0,u5_1,u5_2,u5_3,u5_4,.slice A6 x6.length c6,.slice none 0 0] [.slice A6 x6.length c6] rfl rfl I6.blk sz33 (one1 rfl) rfl (by simp) ?_
 intro w' hb hg
 replace F5:=Stb.grow ay hg (I6.ga) F5
 replace F6:=Slv.grow hR F6 hg (I6.ga)
 replace I6:=I6.store hb hg
 clear hb hg
 refine ⟨trivial,?_⟩
 refine ad ?_
 go_upto_region 12 with fail
 refine ac (by rfl) ?_
 simp only [List.map]
 refine sq1p r 0 ?_
 refine af 76 #[.pointer (some ⟨r,0,none⟩)] (by go_simp) ?_
 refine Calls.mono (lr76 R p hR n s hs HIT r k6 e6 _ I6.rdr I6.le D6) ?_
 rintro e w7 ⟨v7,x7,k7,e7,rfl,hR7,h7,hg,hs7⟩
 obtain ⟨A7,c7,hv7,_,_⟩:=hR7.shape
 subst hv7
 replace F5:=Stb.grow ay hg (I6.ra) F5
 replace F6:=Slv.grow hR F6 hg (I6.ra)
 have F7:=Slv.since (bs hR) hR7 I6.aw
 clear hR7
 have I7:=I6.call h7 hs7.1 hg
 clear I6 h7 hg
 have D7:=aN D6 hs7
 clear D6
 refine ⟨_,rfl,trivial,?_⟩
 simp only [Act.put,PutA,PutZ,PutS]
 refine sq1p (wr.heap.size) 10 ?_
 refine aj 51 _ _ rfl rfl (wr.heap.size) 10 53 _ #[.int .i64 x1,.int .i64 x2,.int .i64 x3,.string x4,u5_0,u5_1,u5_2,u5_3,u5_4,.slice A6 x6.length c6,.slice A7 x7.length c7] [.slice A7 x7.length c7] rfl rfl I7.blk sz51 (one1 rfl) rfl (by simp) ?_
 intro w' hb hg
 replace F5:=Stb.grow ay hg (I7.ga) F5
 replace F6:=Slv.grow hR F6 hg (I7.ga)
 replace F7:=Slv.grow (bs hR) F7 hg (I7.ga)
 replace I7:=I7.store hb hg
 clear hb hg
 refine ⟨trivial,?_⟩
 refine ad ?_
 have FR:(isP R) _ (aB (wr.heap.size + 1) _) [.int .i64 x1,.int .i64 x2,.int .i64 x3,.string x4,u5_0,u5_1,u5_2,u5_3,u5_4,.slice A6 x6.length c6,.slice A7 x7.length c7] (x1,x2,x3,x4,x5,x6,x7):=⟨_,_,_,_,_,_,_,rfl,⟨hx1,hx2,hx3,Nat.le_trans hx4 (by omega)⟩,F5,F6,F7⟩
 clear F5 F6 F7
 have hone:=one_is _ _ _ _ FR
 go_upto_region 13 with fail
 refine ac (by rfl) ?_
 simp only [List.map]
 refine sq1 (.slice A i c) ?_
 refine ar 53 _ rfl (wr.heap.size) 53 #[.int .i64 x1,.int .i64 x2,.int .i64 x3,.string x4,u5_0,u5_1,u5_2,u5_3,u5_4,.slice A6 x6.length c6,.slice A7 x7.length c7] _ rfl I7.blk Tryz.underlying53 rfl size53 trivial ?_
 simp only [Act.put,PutA,PutZ,PutS]
 refine au (.slice (some ⟨w'.heap.size,0,none⟩) 1 1) (w'.alloc (.cells #[.int .i64 x1,.int .i64 x2,.int .i64 x3,.string x4,u5_0,u5_1,u5_2,u5_3,u5_4,.slice A6 x6.length c6,.slice A7 x7.length c7] 53)) (by go_simp) trivial ?_
 simp only [Act.put,PutA,PutZ,PutS]
 refine sq_push (stb_is hR) _ _ 33 176 (wr.heap.size + 1) 1 rfl rfl Tryz.underlying33 info53x (by decide) [.int .i64 x1,.int .i64 x2,.int .i64 x3,.string x4,u5_0,u5_1,u5_2,u5_3,u5_4,.slice A6 x6.length c6,.slice A7 x7.length c7] (x1,x2,x3,x4,x5,x6,x7) (HI.out.grow (stb_is hR) I7.grown hrw) rfl rfl hone FR (fun g hg => by have:=(HI.out.own_ge g hg).2; omega) (by omega) (Nat.le_trans hbw I7.grown.size) rfl (by rw [hil]; omega) (by rw [hil]; omega) ?_
 intro v2 w2 hl2 hb2
 have HR2:Hid (Rdr 30 r s k7 e7 w2∧w.grownBy w2 (some r)∧Res (aR (isR p) (i + 1)) s kz ez (l++[(x1,x2,x3,x4,x5,x6,x7)]) k7 e7):=qH ⟨(hb2.block r hrw).trans I7.rdr,grown_below (an HR.out.2.1 I7.grown) hb2 (Nat.le_refl _),HR.out.2.2.snoc (by rw [<- hk_0]; exact (hs1.seq (hs2.seq (hs3.seq (hs4.seq (hs5.seq (hs6.seq hs7)))))))⟩
 obtain ⟨A2,c2x,hv2⟩:=hl2.shape
 rw [List.length_append,hil] at hv2
 subst hv2
 have HI2:Hid (LstI (isP R) 11 53 w.heap.size (.slice A2 (i + 1) c2x) (l++[(x1,x2,x3,x4,x5,x6,x7)]) w2):=qH hl2
 refine ⟨trivial,?_⟩
 simp only [Act.put,PutA,PutZ,PutS]
 refine sq1 (.slice A2 (i + 1) c2x) ?_
 refine ad ?_
 clear hl2 hb2 HI HR
 go_wp2_with fail
 go_roundw
 case rel => exact ⟨i + 1,jj,k7,c2x,e7,A2,l++[(x1,x2,x3,x4,x5,x6,x7)],rfl,by go_num,by omega,by simp [hil],HI2,HR2⟩
 rw [Hjj.out]; simp [intOf]
end Go.Proofs.YtmhhcfceikcfbaaGreat
