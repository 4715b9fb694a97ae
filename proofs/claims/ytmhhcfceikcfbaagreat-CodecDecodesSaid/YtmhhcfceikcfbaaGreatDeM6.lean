/- Walks: a checker made. -/
import Derived.Test.YtmhhcfceikcfbaaGreatDeM5
namespace Go.Proofs.YtmhhcfceikcfbaaGreat
open Go.RowKit Go.MapKept
set_option maxRecDepth 100000
set_option maxHeartbeats 4000000
def stT (l:List Sty):Int→Option Int:=l.foldl (fun f s => putF f s.1 (some s.2.1)) (fun _ => none)
def lsT (l:List Lst):Int→Bool:=l.foldl (fun f s => putF f s.1 true) (fun _ => false)
def rvT (l:List Rev):Int→Bool:=l.foldl (fun f s => putF f s.1 true) (fun _ => false)
def NewC (ss:List Sty) (ll:List Lst) (rr:List Rev) (w:World) (e:Ending) (w':World):Prop:=∃ K:CK,e = .returned (.pointer (some ⟨K.c,0,none⟩))∧Below w.heap.size w w'∧CkAt K (fun _ => false,0) w'∧K.N = w.heap.size∧K.st = stT ss∧K.ls = lsT ll∧K.rv = rvT rr
theorem CkAt.upd1 {N c m1 m2 m3 m4 m5:Nat} {st st':Int→Option Int} {ls rv:Int→Bool} {s:Sta} {w w':World} (h:CkAt ⟨N,c,m1,m2,m3,m4,m5,st,ls,rv⟩ s w) (hb:bh st' m1 w') (hg:w.grownBy w' (some m1)) (n2:m2≠m1) (n3:m3≠m1) (n4:m4≠m1) (n5:m5≠m1) (nc:c≠m1):CkAt ⟨N,c,m1,m2,m3,m4,m5,st',ls,rv⟩ s w' :=
 have q:∀ k,k < w.heap.size→k≠m1→w'.heap[k]? = w.heap[k]?:=fun k h1 h2 => hg.block k h1 (fun e => h2 (Option.some.inj e))
 ⟨(q _ h.size.1 nc).trans h.blk,hb,h.h2.kept (q _ (aX.lt h.h2) n2),h.h3.kept (q _ (aX.lt h.h3) n3),h.h4.kept (q _ (aX.lt h.h4) n4),h.h5.kept (q _ (aX.lt h.h5) n5),h.d1,h.d2,h.d3,h.d5,h.dc,h.e1,h.e2,h.e3,h.e5,h.nc,h.nm⟩
theorem CkAt.upd2 {N c m1 m2 m3 m4 m5:Nat} {st:Int→Option Int} {ls ls' rv:Int→Bool} {s:Sta} {w w':World} (h:CkAt ⟨N,c,m1,m2,m3,m4,m5,st,ls,rv⟩ s w) (hb:aT ls' m2 w') (hg:w.grownBy w' (some m2)) (n1:m1≠m2) (n3:m3≠m2) (n4:m4≠m2) (n5:m5≠m2) (nc:c≠m2):CkAt ⟨N,c,m1,m2,m3,m4,m5,st,ls',rv⟩ s w' :=
 have q:∀ k,k < w.heap.size→k≠m2→w'.heap[k]? = w.heap[k]?:=fun k h1 h2 => hg.block k h1 (fun e => h2 (Option.some.inj e))
 ⟨(q _ h.size.1 nc).trans h.blk,h.h1.kept (q _ (aX.lt h.h1) n1),hb,h.h3.kept (q _ (aX.lt h.h3) n3),h.h4.kept (q _ (aX.lt h.h4) n4),h.h5.kept (q _ (aX.lt h.h5) n5),h.d1,h.d2,h.d3,h.d5,h.dc,h.e1,h.e2,h.e3,h.e5,h.nc,h.nm⟩
theorem CkAt.upd3 {N c m1 m2 m3 m4 m5:Nat} {st:Int→Option Int} {ls rv rv':Int→Bool} {s:Sta} {w w':World} (h:CkAt ⟨N,c,m1,m2,m3,m4,m5,st,ls,rv⟩ s w) (hb:aT rv' m3 w') (hg:w.grownBy w' (some m3)) (n1:m1≠m3) (n2:m2≠m3) (n4:m4≠m3) (n5:m5≠m3) (nc:c≠m3):CkAt ⟨N,c,m1,m2,m3,m4,m5,st,ls,rv'⟩ s w' :=
 have q:∀ k,k < w.heap.size→k≠m3→w'.heap[k]? = w.heap[k]?:=fun k h1 h2 => hg.block k h1 (fun e => h2 (Option.some.inj e))
 ⟨(q _ h.size.1 nc).trans h.blk,h.h1.kept (q _ (aX.lt h.h1) n1),h.h2.kept (q _ (aX.lt h.h2) n2),hb,h.h4.kept (q _ (aX.lt h.h4) n4),h.h5.kept (q _ (aX.lt h.h5) n5),h.d1,h.d2,h.d3,h.d5,h.dc,h.e1,h.e2,h.e3,h.e5,h.nc,h.nm⟩
theorem bK {B b:Nat} {a w w':World} (h:Below B a w) (hg:w.grownBy w' (some b)) (hb:B≤b) (hw:B≤w.heap.size):Below B a w' :=
 ⟨hg.os.trans h.os,hg.tape.trans h.tape,hg.output.trans h.output,Nat.le_trans h.size hg.size,fun k hk => (hg.block k (by omega) (fun e => by have:=Option.some.inj e; omega)).trans (h.block k hk)⟩
theorem bM (w:World) (o:Obj):(w.alloc o).heap.size = w.heap.size + 1:=Array.size_push _
theorem new49 (G:Nat→Prop) (w:World) (fv h0 h1 h2 h3 h4 cv vv:Value) (rA sA lA:Option Addr) (rn rc sn sc ln lc:Nat) (ss:List Sty) (ll:List Lst) (rr:List Rev) (hS:Slv styP 6 w G (.slice sA sn sc) ss) (hL:Slv lstP 2 w G (.slice lA ln lc) ll) (hR:Slv revP 3 w G (.slice rA rn rc) rr) (hG:∀ b,G b→b < w.heap.size):Calls Tryz.prog 49 #[.agg #[fv,h0,h1,h2,h3,h4,.slice rA rn rc,.slice sA sn sc,.slice lA ln lc,cv,vv]] w (NewC ss ll rr w):=by
 have hmm:=@run_makeMap Tryz.prog
 have HS:=qH hS
 have HL:=qH hL
 have HR:=qH hR
 have hsz:sn = ss.length∧ln = ll.length∧rn = rr.length:=by
  obtain ⟨_,_,e1,_⟩:=hS.shape
  obtain ⟨_,_,e2,_⟩:=hL.shape
  obtain ⟨_,_,e3,_⟩:=hR.shape
  cases e1
  cases e2
  cases e3
  exact ⟨rfl,rfl,rfl⟩
 have hmx:sn≤9223372036854775807∧ln≤9223372036854775807∧rn≤9223372036854775807:=by
  obtain ⟨_,_,e1,q1,q2⟩:=hS.shape
  obtain ⟨_,_,e2,q3,q4⟩:=hL.shape
  obtain ⟨_,_,e3,q5,q6⟩:=hR.shape
  unfold maxLen at q2 q4 q6
  omega
 obtain ⟨hx1,hx2,hx3⟩:=hmx
 have HZ:=qH hsz
 have HG:=qH hG
 clear hS hL hR hsz hG
 obtain ⟨g,hg⟩:=gX (w.heap.size)
 obtain ⟨m1,hm1⟩:=gX (w.heap.size + 1)
 obtain ⟨m2,hm2⟩:=gX (w.heap.size + 1 + 1)
 obtain ⟨m3,hm3⟩:=gX (w.heap.size + 1 + 1 + 1)
 obtain ⟨m4,hm4⟩:=gX (w.heap.size + 1 + 1 + 1 + 1)
 obtain ⟨m5,hm5⟩:=gX (w.heap.size + 1 + 1 + 1 + 1 + 1)
 obtain ⟨c,hc⟩:=gX (w.heap.size + 1 + 1 + 1 + 1 + 1 + 1)
 obtain ⟨A0,hA0⟩:=gX (w.alloc (.cells #[fv,h0,h1,h2,h3,h4,.slice rA rn rc,.slice sA sn sc,.slice lA ln lc,cv,vv] 49))
 obtain ⟨A1,hA1⟩:=gX (A0.alloc (.map #[] 0))
 obtain ⟨A2,hA2⟩:=gX (A1.alloc (.map #[] 0))
 obtain ⟨A3,hA3⟩:=gX (A2.alloc (.map #[] 0))
 obtain ⟨A4,hA4⟩:=gX (A3.alloc (.map #[] 0))
 obtain ⟨A5,hA5⟩:=gX (A4.alloc (.map #[] 0))
 obtain ⟨A6,hA6⟩:=gX (A5.alloc (.cells #[.map (some m1),.map (some m2),.map (some m3),.map (some m4),.map (some m5),.int .i64 0] 130))
 have z0:A0.heap.size = m1:=by rw [hA0,bM,hm1]
 have z1:A1.heap.size = m2:=by rw [hA1,bM,z0,hm2,hm1]
 have z2:A2.heap.size = m3:=by rw [hA2,bM,z1,hm3,hm2]
 have z3:A3.heap.size = m4:=by rw [hA3,bM,z2,hm4,hm3]
 have z4:A4.heap.size = m5:=by rw [hA4,bM,z3,hm5,hm4]
 have z5:A5.heap.size = c:=by rw [hA5,bM,z4,hc,hm5]
 have b1:Below A0.heap.size A0 A1:=by rw [hA1]; exact ag _ _
 have b2:Below A1.heap.size A1 A2:=by rw [hA2]; exact ag _ _
 have b3:Below A2.heap.size A2 A3:=by rw [hA3]; exact ag _ _
 have b4:Below A3.heap.size A3 A4:=by rw [hA4]; exact ag _ _
 have b5:Below A4.heap.size A4 A5:=by rw [hA5]; exact ag _ _
 have b6:Below A5.heap.size A5 A6:=by rw [hA6]; exact ag _ _
 have Hg:Hid (A0.heap[g]? = some (.cells #[fv,h0,h1,h2,h3,h4,.slice rA rn rc,.slice sA sn sc,.slice lA ln lc,cv,vv] 49 (0,0))):=qH (by rw [hA0]; exact ah _ _ hg)
 have H0:Hid (Below w.heap.size w A0):=qH (by rw [hA0]; exact ag _ _)
 have HB:Hid (Below A0.heap.size A0 A6):=qH (b1.trans ((b2.trans ((b3.trans ((b4.trans ((b5.trans (b6.mono b5.size)).mono b4.size)).mono b3.size)).mono b2.size)).mono b1.size))
 have n1:bh (fun _ => none) m1 A1:=by rw [<- z0,hA1]; exact numAt_new A0
 have n2:aT (fun _ => false) m2 A2:=by rw [<- z1,hA2]; exact setAt_new A1
 have n3:aT (fun _ => false) m3 A3:=by rw [<- z2,hA3]; exact setAt_new A2
 have n4:aT (fun _ => false) m4 A4:=by rw [<- z3,hA4]; exact setAt_new A3
 have n5:aT (fun _ => false) m5 A5:=by rw [<- z4,hA5]; exact setAt_new A4
 have HK:Hid (CkAt ⟨w.heap.size,c,m1,m2,m3,m4,m5,(fun _ => none),(fun _ => false),(fun _ => false)⟩ ((fun _ => false),0) A6):=qH ⟨by rw [hA6]; exact ah _ _ z5.symm,((((n1.over b2).over b3).over b4).over b5).over b6,(((n2.over b3).over b4).over b5).over b6,((n3.over b4).over b5).over b6,(n4.over b5).over b6,n5.over b6,
  by simp only; omega,by simp only; omega,by simp only; omega,by simp only; omega,by simp only; omega,by simp only; omega,by simp only; omega,by simp only; omega,by simp only; omega,by simp only; omega,by simp only; omega⟩
 have HW:Hid (A6 = ((((((w.alloc (.cells #[fv,h0,h1,h2,h3,h4,.slice rA rn rc,.slice sA sn sc,.slice lA ln lc,cv,vv] 49)).alloc (.map #[] 0)).alloc (.map #[] 0)).alloc (.map #[] 0)).alloc (.map #[] 0)).alloc (.map #[] 0)).alloc (.cells #[.map (some m1),.map (some m2),.map (some m3),.map (some m4),.map (some m5),.int .i64 0] 130)):=qH (by rw [hA6,hA5,hA4,hA3,hA2,hA1,hA0])
 have N1:=qH hm1
 have N2:=qH hm2
 have N3:=qH hm3
 have N4:=qH hm4
 have N5:=qH hm5
 have NC:=qH hc
 have NG:=qH hg
 have Z0:=qH z0
 clear hm1 hm2 hm3 hm4 hm5 hc hg z0 z1 z2 z3 z4 z5 b1 b2 b3 b4 b5 b6 n1 n2 n3 n4 n5 hA0 hA1 hA2 hA3 hA4 hA5 hA6
 go_enter Tryz.func49,Tryz.ntmps49
 go_upto_region 2 with fail
 rw [<- NC.out,<- N5.out,<- N4.out,<- N3.out,<- N2.out,<- N1.out,<- NG.out,<- HW.out]
 clear HW hmm
 obtain ⟨wz,hwz⟩:=gX (A6)
 rw [<- hwz] at HK HB ⊢
 clear hwz
 have k9:wz.heap[g]? = some (.cells #[fv,h0,h1,h2,h3,h4,.slice rA rn rc,.slice sA sn sc,.slice lA ln lc,cv,vv] 49 (0,0)):=ai Hg.out HB.out
 have c9:=aa k9 7
 clear k9
 go_wp2_with fail
 clear c9
 go_loopw [21] (fun iv wr => ∃ i:Nat,iv = .int .i64 (i:Int)∧i≤sn∧Hid (∃ F,CkAt ⟨w.heap.size,c,m1,m2,m3,m4,m5,F,(fun _ => false),(fun _ => false)⟩ ((fun _ => false),0) wr∧(ss.drop i).foldl (fun f s => putF f s.1 (some s.2.1)) F = stT ss)∧Hid (Below A0.heap.size A0 wr)) (fun iv _ => sn - (intOf iv).toNat)
 case atStart => exact ⟨0,rfl,Nat.zero_le _,qH ⟨_,HK.out,rfl⟩,HB⟩
 obtain ⟨i,rfl,hin,HT,HBr⟩:=hrel
 clear HB HK
 have HB:=HBr
 clear HBr
 obtain ⟨F,hK,hF0⟩:=HT.out
 have HK:=qH hK
 have HF0:=qH hF0
 clear HT hK hF0
 by_cases hlt:i < sn
 ·have hlt':(i:Int) < (sn:Int):=by omega
  obtain ⟨y,hy⟩:∃ y,ss[i]? = some y:=⟨_,List.getElem?_eq_getElem (by rw [<- HZ.out.1]; exact hlt)⟩
  obtain ⟨b3,o3,us,hA3,_,hbw3,_,hRy,hds⟩:=HS.out.at i y hy
  have hD:=EltS.below (w:=w) hds hbw3 (H0.out.trans (HB.out.mono H0.out.size))
  have hF1:(ss.drop (i + 1)).foldl (fun f s => putF f s.1 (some s.2.1)) ((fun f s => putF f s.1 (some s.2.1)) F y) = stT ss:=by
   obtain ⟨q1,q2⟩:=List.getElem?_eq_some_iff.1 hy
   rw [<- HF0.out,List.drop_eq_getElem_cons q1,q2]
   rfl
  obtain ⟨y0,y1,y2,y3,y4,yl⟩:=y
  obtain ⟨y5,rfl,_,hyp⟩:=hRy
  obtain ⟨pA,pc,rfl,_,_⟩:=hyp.shape
  clear hyp
  simp only at hF1
  have HF1:=qH hF1
  have d0:=hD 0 _ rfl
  have d1:=hD 1 _ rfl
  have d2:=hD 2 _ rfl
  have d3:=hD 3 _ rfl
  have d4:=hD 4 _ rfl
  have d5:=hD 5 _ rfl
  simp only [Nat.add_zero] at d0
  obtain ⟨d,hd⟩:=gX (wr.heap.size)
  obtain ⟨wd,hwd⟩:=gX (wr.alloc (.cells #[.int .i64 y0,.int .i64 y1,.string y2,.int .i64 y3,.int .i64 y4,.slice pA yl.length pc] 107))
  have kd:wd.heap[d]? = some (.cells #[.int .i64 y0,.int .i64 y1,.string y2,.int .i64 y3,.int .i64 y4,.slice pA yl.length pc] 107 (0,0)):=by rw [hwd]; exact ah _ _ hd
  have Kd:=qH kd
  have hBd:Below wr.heap.size wr wd:=by rw [hwd]; exact ag _ _
  have HBd:Hid (Below A0.heap.size A0 wd):=qH (HB.out.trans (hBd.mono HB.out.size))
  have HKd:=qH (HK.out.over hBd)
  have DLT:Hid (c < d):=qH (by rw [hd]; exact HK.out.size.1)
  have HW:=qH hwd
  have HDd:=qH hd
  clear hds hy hD hd hwd kd hF1 hBd HF0
  subst hA3
  go_upto_region 5 with fail
  rw [<- HW.out,<- HDd.out]
  clear HW HDd HB HK d0 d1 d2 d3 d4 d5
  have HB:=HBd
  have kd:=Kd.out
  have hcb:=HKd.out.blk
  simp only at hcb
  have hF:=HKd.out.h1
  simp only at hF
  clear HBd Kd
  replace HKd:=qH (show CkAt ⟨w.heap.size,c,m1,m2,m3,m4,m5,F,(fun _ => false),(fun _ => false)⟩ ((fun _ => false),0) wd.drew from HKd.out.over (Below.refl _ wd).drew)
  replace kd:wd.drew.heap[d]? = some (.cells #[.int .i64 y0,.int .i64 y1,.string y2,.int .i64 y3,.int .i64 y4,.slice pA yl.length pc] 107 (0,0)):=kd
  replace hcb:wd.drew.heap[c]? = some (.cells #[.map (some m1),.map (some m2),.map (some m3),.map (some m4),.map (some m5),.int .i64 0] 130 (0,0)):=hcb
  replace HB:=qH HB.out.drew
  refine ao (S:=fun w' => w'.heap[d]? = some (.cells #[.int .i64 y0,.int .i64 y1,.string y2,.int .i64 y3,.int .i64 y4,.slice pA yl.length pc] 107 (0,0))∧w'.heap[c]? = some (.cells #[.map (some m1),.map (some m2),.map (some m3),.map (some m4),.map (some m5),.int .i64 0] 130 (0,0))) [(true,0),(true,1),(true,2),(true,3),(true,4),(true,5),(true,6),(true,7),(false,8)] (by kernel_rfl) (by kernel_rfl) ⟨kd,hcb⟩ ?_
  simp only [aO,List.getElem?_cons_succ,List.getElem?_cons_zero]
  refine sq2p c 0 ?_
  refine sq2p c 0 ?_
  refine sq2p c 0 ?_
  refine sq2 (.map (some m1)) ?_ (fun w' hS => by have q0:=aa hS.2 0; go_simp)
  refine sq2p d 0 ?_
  refine sq2i y0 ?_ (fun w' hS => by have q0:=aa hS.1 0; go_simp)
  refine sq2p d 1 ?_
  refine sq2i y1 ?_ (fun w' hS => by have q0:=aa hS.1 1; go_simp)
  refine sq_updateN _ _ _ rfl m1 F y0 y1 rfl rfl rfl hF ?_
  intro wum1 hSm1 hgm1
  replace kd:wum1.heap[d]? = some (.cells #[.int .i64 y0,.int .i64 y1,.string y2,.int .i64 y3,.int .i64 y4,.slice pA yl.length pc] 107 (0,0)):=(hgm1.block _ (ae kd) (fun e => by have:=Option.some.inj e; have:=DLT.out; have:=NC.out; have:=N1.out; have:=N2.out; have:=N3.out; omega)).trans kd
  replace hcb:wum1.heap[c]? = some (.cells #[.map (some m1),.map (some m2),.map (some m3),.map (some m4),.map (some m5),.int .i64 0] 130 (0,0)):=(hgm1.block _ (ae hcb) (fun e => by have:=Option.some.inj e; have:=NC.out; have:=N1.out; have:=N2.out; have:=N3.out; omega)).trans hcb
  refine ⟨⟨kd,hcb⟩,?_⟩
  refine ad ?_
  have HKn:=qH (HKd.out.upd1 hSm1 hgm1 (by have:=N1.out; have:=N2.out; have:=N3.out; have:=N4.out; have:=N5.out; have:=NC.out; omega) (by have:=N1.out; have:=N2.out; have:=N3.out; have:=N4.out; have:=N5.out; have:=NC.out; omega) (by have:=N1.out; have:=N2.out; have:=N3.out; have:=N4.out; have:=N5.out; have:=NC.out; omega) (by have:=N1.out; have:=N2.out; have:=N3.out; have:=N4.out; have:=N5.out; have:=NC.out; omega) (by have:=N1.out; have:=N2.out; have:=N3.out; have:=N4.out; have:=N5.out; have:=NC.out; omega))
  have HBn:Hid (Below A0.heap.size A0 wum1):=qH (bK HB.out hgm1 (by have:=Z0.out; have:=N1.out; have:=N2.out; have:=N3.out; omega) HB.out.size)
  clear HKd HB hF hSm1 hgm1 kd hcb DLT
  go_wp2_with fail
  exact ⟨⟨i + 1,by go_num,by omega,qH ⟨_,HKn.out,HF1.out⟩,HBn⟩,by simp [intOf]; omega⟩
 have hlt':¬ (i:Int) < (sn:Int):=by omega
 have hii:i = sn:=by omega
 have hF2:F = stT ss:=by rw [<- HF0.out,hii,List.drop_eq_nil_of_le (by rw [<- HZ.out.1]; omega)]; rfl
 rw [hF2] at HK
 clear HF0 hF2 hii
 obtain ⟨wz,hwz⟩:=gX (wr)
 rw [<- hwz] at HK HB ⊢
 clear hwz
 have k9:wz.heap[g]? = some (.cells #[fv,h0,h1,h2,h3,h4,.slice rA rn rc,.slice sA sn sc,.slice lA ln lc,cv,vv] 49 (0,0)):=ai Hg.out HB.out
 have c9:=aa k9 8
 clear k9
 go_wp2_with fail
 clear c9
 go_loopw [38] (fun iv wr => ∃ i:Nat,iv = .int .i64 (i:Int)∧i≤ln∧Hid (∃ F,CkAt ⟨w.heap.size,c,m1,m2,m3,m4,m5,stT ss,F,(fun _ => false)⟩ ((fun _ => false),0) wr∧(ll.drop i).foldl (fun f s => putF f s.1 true) F = lsT ll)∧Hid (Below A0.heap.size A0 wr)) (fun iv _ => ln - (intOf iv).toNat)
 case atStart => exact ⟨0,rfl,Nat.zero_le _,qH ⟨_,HK.out,rfl⟩,HB⟩
 obtain ⟨i,rfl,hin,HT,HBr⟩:=hrel
 clear HB HK
 have HB:=HBr
 clear HBr
 obtain ⟨F,hK,hF0⟩:=HT.out
 have HK:=qH hK
 have HF0:=qH hF0
 clear HT hK hF0
 by_cases hlt:i < ln
 ·have hlt':(i:Int) < (ln:Int):=by omega
  obtain ⟨y,hy⟩:∃ y,ll[i]? = some y:=⟨_,List.getElem?_eq_getElem (by rw [<- HZ.out.2.1]; exact hlt)⟩
  obtain ⟨b3,o3,us,hA3,_,hbw3,_,hRy,hds⟩:=HL.out.at i y hy
  have hD:=EltS.below (w:=w) hds hbw3 (H0.out.trans (HB.out.mono H0.out.size))
  have hF1:(ll.drop (i + 1)).foldl (fun f s => putF f s.1 true) ((fun f s => putF f s.1 true) F y) = lsT ll:=by
   obtain ⟨q1,q2⟩:=List.getElem?_eq_some_iff.1 hy
   rw [<- HF0.out,List.drop_eq_getElem_cons q1,q2]
   rfl
  obtain ⟨y0,yl⟩:=y
  obtain ⟨y1,rfl,_,hyp⟩:=hRy
  obtain ⟨pA,pc,rfl,_,_⟩:=hyp.shape
  clear hyp
  simp only at hF1
  have HF1:=qH hF1
  have d0:=hD 0 _ rfl
  have d1:=hD 1 _ rfl
  simp only [Nat.add_zero] at d0
  obtain ⟨d,hd⟩:=gX (wr.heap.size)
  obtain ⟨wd,hwd⟩:=gX (wr.alloc (.cells #[.int .i64 y0,.slice pA yl.length pc] 110))
  have kd:wd.heap[d]? = some (.cells #[.int .i64 y0,.slice pA yl.length pc] 110 (0,0)):=by rw [hwd]; exact ah _ _ hd
  have Kd:=qH kd
  have hBd:Below wr.heap.size wr wd:=by rw [hwd]; exact ag _ _
  have HBd:Hid (Below A0.heap.size A0 wd):=qH (HB.out.trans (hBd.mono HB.out.size))
  have HKd:=qH (HK.out.over hBd)
  have DLT:Hid (c < d):=qH (by rw [hd]; exact HK.out.size.1)
  have HW:=qH hwd
  have HDd:=qH hd
  clear hds hy hD hd hwd kd hF1 hBd HF0
  subst hA3
  go_upto_region 10 with fail
  rw [<- HW.out,<- HDd.out]
  clear HW HDd HB HK d0 d1
  have HB:=HBd
  have kd:=Kd.out
  have hcb:=HKd.out.blk
  simp only at hcb
  have hF:=HKd.out.h2
  simp only at hF
  clear HBd Kd
  replace HKd:=qH (show CkAt ⟨w.heap.size,c,m1,m2,m3,m4,m5,stT ss,F,(fun _ => false)⟩ ((fun _ => false),0) wd.drew from HKd.out.over (Below.refl _ wd).drew)
  replace kd:wd.drew.heap[d]? = some (.cells #[.int .i64 y0,.slice pA yl.length pc] 110 (0,0)):=kd
  replace hcb:wd.drew.heap[c]? = some (.cells #[.map (some m1),.map (some m2),.map (some m3),.map (some m4),.map (some m5),.int .i64 0] 130 (0,0)):=hcb
  replace HB:=qH HB.out.drew
  refine ao (S:=fun w' => w'.heap[d]? = some (.cells #[.int .i64 y0,.slice pA yl.length pc] 110 (0,0))∧w'.heap[c]? = some (.cells #[.map (some m1),.map (some m2),.map (some m3),.map (some m4),.map (some m5),.int .i64 0] 130 (0,0))) [(true,0),(true,1),(true,2),(true,3),(true,4),(true,5),(false,6)] (by kernel_rfl) (by kernel_rfl) ⟨kd,hcb⟩ ?_
  simp only [aO,List.getElem?_cons_succ,List.getElem?_cons_zero]
  refine sq2p c 0 ?_
  refine sq2p c 0 ?_
  refine sq2p c 1 ?_
  refine sq2 (.map (some m2)) ?_ (fun w' hS => by have q0:=aa hS.2 1; go_simp)
  refine sq2p d 0 ?_
  refine sq2i y0 ?_ (fun w' hS => by have q0:=aa hS.1 0; go_simp)
  refine sq_update _ _ _ rfl m2 F y0 rfl rfl rfl hF ?_
  intro wum2 hSm2 hgm2
  replace kd:wum2.heap[d]? = some (.cells #[.int .i64 y0,.slice pA yl.length pc] 110 (0,0)):=(hgm2.block _ (ae kd) (fun e => by have:=Option.some.inj e; have:=DLT.out; have:=NC.out; have:=N1.out; have:=N2.out; have:=N3.out; omega)).trans kd
  replace hcb:wum2.heap[c]? = some (.cells #[.map (some m1),.map (some m2),.map (some m3),.map (some m4),.map (some m5),.int .i64 0] 130 (0,0)):=(hgm2.block _ (ae hcb) (fun e => by have:=Option.some.inj e; have:=NC.out; have:=N1.out; have:=N2.out; have:=N3.out; omega)).trans hcb
  refine ⟨⟨kd,hcb⟩,?_⟩
  refine ad ?_
  have HKn:=qH (HKd.out.upd2 hSm2 hgm2 (by have:=N1.out; have:=N2.out; have:=N3.out; have:=N4.out; have:=N5.out; have:=NC.out; omega) (by have:=N1.out; have:=N2.out; have:=N3.out; have:=N4.out; have:=N5.out; have:=NC.out; omega) (by have:=N1.out; have:=N2.out; have:=N3.out; have:=N4.out; have:=N5.out; have:=NC.out; omega) (by have:=N1.out; have:=N2.out; have:=N3.out; have:=N4.out; have:=N5.out; have:=NC.out; omega) (by have:=N1.out; have:=N2.out; have:=N3.out; have:=N4.out; have:=N5.out; have:=NC.out; omega))
  have HBn:Hid (Below A0.heap.size A0 wum2):=qH (bK HB.out hgm2 (by have:=Z0.out; have:=N1.out; have:=N2.out; have:=N3.out; omega) HB.out.size)
  clear HKd HB hF hSm2 hgm2 kd hcb DLT
  go_wp2_with fail
  exact ⟨⟨i + 1,by go_num,by omega,qH ⟨_,HKn.out,HF1.out⟩,HBn⟩,by simp [intOf]; omega⟩
 have hlt':¬ (i:Int) < (ln:Int):=by omega
 have hii:i = ln:=by omega
 have hF2:F = lsT ll:=by rw [<- HF0.out,hii,List.drop_eq_nil_of_le (by rw [<- HZ.out.2.1]; omega)]; rfl
 rw [hF2] at HK
 clear HF0 hF2 hii
 obtain ⟨wz,hwz⟩:=gX (wr)
 rw [<- hwz] at HK HB ⊢
 clear hwz
 have k9:wz.heap[g]? = some (.cells #[fv,h0,h1,h2,h3,h4,.slice rA rn rc,.slice sA sn sc,.slice lA ln lc,cv,vv] 49 (0,0)):=ai Hg.out HB.out
 have c9:=aa k9 6
 clear k9
 go_wp2_with fail
 clear c9
 go_loopw [52] (fun iv wr => ∃ i:Nat,iv = .int .i64 (i:Int)∧i≤rn∧Hid (∃ F,CkAt ⟨w.heap.size,c,m1,m2,m3,m4,m5,stT ss,lsT ll,F⟩ ((fun _ => false),0) wr∧(rr.drop i).foldl (fun f s => putF f s.1 true) F = rvT rr)∧Hid (Below A0.heap.size A0 wr)) (fun iv _ => rn - (intOf iv).toNat)
 case atStart => exact ⟨0,rfl,Nat.zero_le _,qH ⟨_,HK.out,rfl⟩,HB⟩
 obtain ⟨i,rfl,hin,HT,HBr⟩:=hrel
 clear HB HK
 have HB:=HBr
 clear HBr
 obtain ⟨F,hK,hF0⟩:=HT.out
 have HK:=qH hK
 have HF0:=qH hF0
 clear HT hK hF0
 by_cases hlt:i < rn
 ·have hlt':(i:Int) < (rn:Int):=by omega
  obtain ⟨y,hy⟩:∃ y,rr[i]? = some y:=⟨_,List.getElem?_eq_getElem (by rw [<- HZ.out.2.2]; exact hlt)⟩
  obtain ⟨b3,o3,us,hA3,_,hbw3,_,hRy,hds⟩:=HR.out.at i y hy
  have hD:=EltS.below (w:=w) hds hbw3 (H0.out.trans (HB.out.mono H0.out.size))
  have hF1:(rr.drop (i + 1)).foldl (fun f s => putF f s.1 true) ((fun f s => putF f s.1 true) F y) = rvT rr:=by
   obtain ⟨q1,q2⟩:=List.getElem?_eq_some_iff.1 hy
   rw [<- HF0.out,List.drop_eq_getElem_cons q1,q2]
   rfl
  obtain ⟨y0,y1,y2⟩:=y
  obtain ⟨rfl,_⟩:=hRy
  simp only at hF1
  have HF1:=qH hF1
  have d0:=hD 0 _ rfl
  have d1:=hD 1 _ rfl
  have d2:=hD 2 _ rfl
  simp only [Nat.add_zero] at d0
  obtain ⟨d,hd⟩:=gX (wr.heap.size)
  obtain ⟨wd,hwd⟩:=gX (wr.alloc (.cells #[.int .i64 y0,.string y1,.int .i64 y2] 141))
  have kd:wd.heap[d]? = some (.cells #[.int .i64 y0,.string y1,.int .i64 y2] 141 (0,0)):=by rw [hwd]; exact ah _ _ hd
  have Kd:=qH kd
  have hBd:Below wr.heap.size wr wd:=by rw [hwd]; exact ag _ _
  have HBd:Hid (Below A0.heap.size A0 wd):=qH (HB.out.trans (hBd.mono HB.out.size))
  have HKd:=qH (HK.out.over hBd)
  have DLT:Hid (c < d):=qH (by rw [hd]; exact HK.out.size.1)
  have HW:=qH hwd
  have HDd:=qH hd
  clear hds hy hD hd hwd kd hF1 hBd HF0
  subst hA3
  go_upto_region 15 with fail
  rw [<- HW.out,<- HDd.out]
  clear HW HDd HB HK d0 d1 d2
  have HB:=HBd
  have kd:=Kd.out
  have hcb:=HKd.out.blk
  simp only at hcb
  have hF:=HKd.out.h3
  simp only at hF
  clear HBd Kd
  replace HKd:=qH (show CkAt ⟨w.heap.size,c,m1,m2,m3,m4,m5,stT ss,lsT ll,F⟩ ((fun _ => false),0) wd.drew from HKd.out.over (Below.refl _ wd).drew)
  replace kd:wd.drew.heap[d]? = some (.cells #[.int .i64 y0,.string y1,.int .i64 y2] 141 (0,0)):=kd
  replace hcb:wd.drew.heap[c]? = some (.cells #[.map (some m1),.map (some m2),.map (some m3),.map (some m4),.map (some m5),.int .i64 0] 130 (0,0)):=hcb
  replace HB:=qH HB.out.drew
  refine ao (S:=fun w' => w'.heap[d]? = some (.cells #[.int .i64 y0,.string y1,.int .i64 y2] 141 (0,0))∧w'.heap[c]? = some (.cells #[.map (some m1),.map (some m2),.map (some m3),.map (some m4),.map (some m5),.int .i64 0] 130 (0,0))) [(true,0),(true,1),(true,2),(true,3),(true,4),(true,5),(false,6)] (by kernel_rfl) (by kernel_rfl) ⟨kd,hcb⟩ ?_
  simp only [aO,List.getElem?_cons_succ,List.getElem?_cons_zero]
  refine sq2p c 0 ?_
  refine sq2p c 0 ?_
  refine sq2p c 2 ?_
  refine sq2 (.map (some m3)) ?_ (fun w' hS => by have q0:=aa hS.2 2; go_simp)
  refine sq2p d 0 ?_
  refine sq2i y0 ?_ (fun w' hS => by have q0:=aa hS.1 0; go_simp)
  refine sq_update _ _ _ rfl m3 F y0 rfl rfl rfl hF ?_
  intro wum3 hSm3 hgm3
  replace kd:wum3.heap[d]? = some (.cells #[.int .i64 y0,.string y1,.int .i64 y2] 141 (0,0)):=(hgm3.block _ (ae kd) (fun e => by have:=Option.some.inj e; have:=DLT.out; have:=NC.out; have:=N1.out; have:=N2.out; have:=N3.out; omega)).trans kd
  replace hcb:wum3.heap[c]? = some (.cells #[.map (some m1),.map (some m2),.map (some m3),.map (some m4),.map (some m5),.int .i64 0] 130 (0,0)):=(hgm3.block _ (ae hcb) (fun e => by have:=Option.some.inj e; have:=NC.out; have:=N1.out; have:=N2.out; have:=N3.out; omega)).trans hcb
  refine ⟨⟨kd,hcb⟩,?_⟩
  refine ad ?_
  have HKn:=qH (HKd.out.upd3 hSm3 hgm3 (by have:=N1.out; have:=N2.out; have:=N3.out; have:=N4.out; have:=N5.out; have:=NC.out; omega) (by have:=N1.out; have:=N2.out; have:=N3.out; have:=N4.out; have:=N5.out; have:=NC.out; omega) (by have:=N1.out; have:=N2.out; have:=N3.out; have:=N4.out; have:=N5.out; have:=NC.out; omega) (by have:=N1.out; have:=N2.out; have:=N3.out; have:=N4.out; have:=N5.out; have:=NC.out; omega) (by have:=N1.out; have:=N2.out; have:=N3.out; have:=N4.out; have:=N5.out; have:=NC.out; omega))
  have HBn:Hid (Below A0.heap.size A0 wum3):=qH (bK HB.out hgm3 (by have:=Z0.out; have:=N1.out; have:=N2.out; have:=N3.out; omega) HB.out.size)
  clear HKd HB hF hSm3 hgm3 kd hcb DLT
  go_wp2_with fail
  exact ⟨⟨i + 1,by go_num,by omega,qH ⟨_,HKn.out,HF1.out⟩,HBn⟩,by simp [intOf]; omega⟩
 have hlt':¬ (i:Int) < (rn:Int):=by omega
 have hii:i = rn:=by omega
 have hF2:F = rvT rr:=by rw [<- HF0.out,hii,List.drop_eq_nil_of_le (by rw [<- HZ.out.2.2]; omega)]; rfl
 rw [hF2] at HK
 clear HF0 hF2 hii
 obtain ⟨wz,hwz⟩:=gX (wr)
 rw [<- hwz] at HK HB ⊢
 clear hwz
 go_wp2_with fail
 go_ret
 exact ⟨_,rfl,H0.out.trans (HB.out.mono H0.out.size),HK.out,rfl,rfl,rfl,rfl⟩
end Go.Proofs.YtmhhcfceikcfbaaGreat
