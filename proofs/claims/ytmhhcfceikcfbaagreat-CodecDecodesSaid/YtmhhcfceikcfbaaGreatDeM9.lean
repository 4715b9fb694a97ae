/- Walks: a document checked. -/
import Derived.Test.YtmhhcfceikcfbaaGreatDeK1
import Derived.Test.YtmhhcfceikcfbaaGreatDeM8
namespace Go.Proofs.YtmhhcfceikcfbaaGreat
open Go.RowKit Go.MapKept
set_option maxRecDepth 100000
set_option maxHeartbeats 4000000
def SetC (T:Stg→Int):Prop:=∀ (G:Nat→Prop) (w:World) (vs:List Value) (x:Stg),stgP w G vs x→(∀ b,G b→b < w.heap.size)→(stgE x).length≤1048576000→Calls Tryz.prog 47 #[.agg vs.toArray] w (RetI (T x) w)
theorem itsS_ext {K K':CK} (h1:K.st = K'.st) (h2:K.ls = K'.ls) (h3:K.rv = K'.rv):∀ n,itsS K n = itsS K' n
 | 0 => rfl
 | n + 1 => by
  unfold itsS
  rw [itsS_ext h1 h2 h3 n]
  have e:itmS K (itsS K' n) = itmS K' (itsS K' n):=by
   funext x p s
   unfold itmS rowsS rowS celS rowE
   rw [h1,h2,h3]
  rw [e]
def ckOf (st:Int→Option Int) (ls rv:Int→Bool):CK:=⟨0,0,0,0,0,0,0,st,ls,rv⟩
def docK {n:Nat} (x:Dc n):CK:=ckOf (stT x.2.2.2.1) (lsT x.2.2.2.2.1) (rvT x.2.2.1)
def endE {n:Nat} (x:Dc n):Int:=aS [hedT 3 (docK x).st (docK x).ls (docK x).rv x.2.1,orE (decide (x.2.1.2.1≠0) || decide (x.2.1.2.2.1≠0) || decide (0 < x.2.1.2.2.2.1.length)) 21]
def flowR {n:Nat} (x:Dc n):Int × Sta:=itsS (docK x) n x.1 (true,false,0) (fun _ => false,0)
def chkT (T:Stg→Int) {n:Nat} (x:Dc n):Int :=
 thenE (aS [T x.2.2.2,revsT x.2.2.1]) (thenE (endE x) (thenE (flowR x).1 (orE (decide (16384 < (flowR x).2.2)) 9)))
theorem stg_shape {w:World} {G:Nat→Prop} {s0 s1 s2 s3:Value} {x:Stg} (h:stgP w G [s0,s1,s2,s3] x):∃ a0 n0 c0 a1 n1 c1 a2 n2 c2 a3 n3 c3,s0 = .slice a0 n0 c0∧s1 = .slice a1 n1 c1∧s2 = .slice a2 n2 c2∧s3 = .slice a3 n3 c3∧Slv styP 6 w G (.slice a0 n0 c0) x.1∧Slv lstP 2 w G (.slice a1 n1 c1) x.2.1:=by
 obtain ⟨v0,v1,v2,v3,e,q0,q1,q2,q3⟩:=h
 cases e
 obtain ⟨_,_,rfl,_⟩:=q0.shape
 obtain ⟨_,_,rfl,_⟩:=q1.shape
 obtain ⟨_,_,rfl,_⟩:=q2.shape
 obtain ⟨_,_,rfl,_⟩:=q3.shape
 exact ⟨_,_,_,_,_,_,_,_,_,_,_,_,rfl,rfl,rfl,rfl,q0,q1⟩
theorem Check20 (T:Stg→Int) (hT:SetC T) (n:Nat) (G:Nat→Prop) (w:World) (vs:List Value) (x:Dc n) (hX:dcP n w G vs x) (hG:∀ b,G b→b < w.heap.size) (hz:(dcE n x).length≤1048576000):Calls Tryz.prog 20 #[.agg vs.toArray] w (RetI (chkT T x) w):=by
 obtain ⟨V,hV⟩:=gX (chkT T x)
 rw [<- hV]
 unfold chkT at hV
 obtain ⟨fv,h0,h1,h2,h3,h4,rv,z0,z1,z2,z3,rfl,hF,hH,hR,hS⟩:=hX
 obtain ⟨ua0,un0,uc0,ui1,ui2,ua3,un3,uc3,ua4,un4,uc4,rfl,rfl,rfl,rfl,rfl⟩:=hd_shape hH
 obtain ⟨fA,fc,rfl,_,_⟩:=hF.shape
 obtain ⟨rA,rc,rfl,_,_⟩:=hR.shape
 obtain ⟨s1,s1n,s1c,s2,s2n,s2c,s3,s3n,s3c,s4,s4n,s4c,rfl,rfl,rfl,rfl,hSt,hLs⟩:=stg_shape hS
 obtain ⟨fl,hd,rr,stg⟩:=x
 simp only at hF hH hR hS hSt hLs hV ⊢
 have hzf:(ak (itE n) fl).length≤1048576000:=by simp only [dcE,seqE,List.length_append] at hz; omega
 have hzr:(ak revE rr).length≤1048576000:=by simp only [dcE,seqE,List.length_append] at hz; omega
 have hzs:(stgE stg).length≤1048576000:=by simp only [dcE,seqE,List.length_append] at hz; omega
 obtain ⟨E1,hE1⟩:=gX (T stg)
 obtain ⟨E2,hE2⟩:=gX (revsT rr)
 have C47:Hid (∀ W,Below w.heap.size w W→Calls Tryz.prog 47 #[.agg #[.slice s1 s1n s1c,.slice s2 s2n s2c,.slice s3 s3n s3c,.slice s4 s4n s4c]] W (RetI E1 W)):=qH (fun W hW => by rw [hE1]; exact hT G W _ stg (Rp.below stb_stg hS hG hW) (fun b h => Nat.lt_of_lt_of_le (hG b h) hW.size) hzs)
 have C48:Hid (∀ W,Below w.heap.size w W→Calls Tryz.prog 48 #[.slice rA rr.length rc] W (RetI E2 W)):=qH (fun W hW => by rw [hE2]; exact tab48 G W _ rr (hR.below bg hG hW) (fun b h => Nat.lt_of_lt_of_le (hG b h) hW.size) hzr)
 rw [<- hE1,<- hE2] at hV
 obtain ⟨fn,hfn⟩:=gX (fl.length)
 obtain ⟨rn,hrn⟩:=gX (rr.length)
 rw [<- hfn] at hF ⊢
 rw [<- hrn] at hR C48 ⊢
 have HFl:=qH hF
 have HH:=qH hH
 have HRv:=qH hR
 have HSt:=qH hSt
 have HLs:=qH hLs
 have HG:=qH hG
 have HZF:=qH hzf
 have HS:=qH hV
 have hdl:un3 = hd.2.2.2.1.length:=by
  obtain ⟨pv,dv,lv,e,_,_,q1,q2,q3⟩:=hH
  cases e
  obtain ⟨_,_,e2,_⟩:=q2.shape
  cases e2
  rfl
 have hui:ui1 = hd.2.1∧ui2 = hd.2.2.1:=by
  obtain ⟨pv,dv,lv,e,_,_,q1,q2,q3⟩:=hH
  cases e
  exact ⟨rfl,rfl⟩
 have HDL:=qH hdl
 have HUI:=qH hui
 obtain ⟨d,hd0⟩:=gX (w.heap.size)
 obtain ⟨W,hW⟩:=gX (w.alloc (.cells #[.slice fA fn fc,.slice ua0 un0 uc0,.int .i64 ui1,.int .i64 ui2,.slice ua3 un3 uc3,.slice ua4 un4 uc4,.slice rA rn rc,.slice s1 s1n s1c,.slice s2 s2n s2c,.slice s3 s3n s3c,.slice s4 s4n s4c] 49))
 have kd:W.heap[d]? = some (.cells #[.slice fA fn fc,.slice ua0 un0 uc0,.int .i64 ui1,.int .i64 ui2,.slice ua3 un3 uc3,.slice ua4 un4 uc4,.slice rA rn rc,.slice s1 s1n s1c,.slice s2 s2n s2c,.slice s3 s3n s3c,.slice s4 s4n s4c] 49 (0,0)):=by rw [hW]; exact ah _ _ hd0
 have hB:Below w.heap.size w W:=by rw [hW]; exact ag w _
 have HB:=qH hB
 have HD:=qH hd0
 have HW:=qH hW
 have Kd:=qH kd
 clear hV hE1 hE2 hfn hrn hF hH hR hS hSt hLs hG hz hzf hzr hzs hd0 hW kd hB hdl hui hT
 go_enter Tryz.func20,Tryz.ntmps20
 go_upto_region 1 with fail
 rw [<- HW.out,<- HD.out]
 clear HW
 have kd:=Kd.out
 replace kd:W.drew.heap[d]? = some (.cells #[.slice fA fn fc,.slice ua0 un0 uc0,.int .i64 ui1,.int .i64 ui2,.slice ua3 un3 uc3,.slice ua4 un4 uc4,.slice rA rn rc,.slice s1 s1n s1c,.slice s2 s2n s2c,.slice s3 s3n s3c,.slice s4 s4n s4c] 49 (0,0)):=kd
 replace HB:=qH HB.out.drew
 refine ao (S:=fun w' => w'.heap[d]? = some (.cells #[.slice fA fn fc,.slice ua0 un0 uc0,.int .i64 ui1,.int .i64 ui2,.slice ua3 un3 uc3,.slice ua4 un4 uc4,.slice rA rn rc,.slice s1 s1n s1c,.slice s2 s2n s2c,.slice s3 s3n s3c,.slice s4 s4n s4c] 49 (0,0))) [(true,0),(true,1),(true,3),(true,4),(false,2),(false,5),(false,6),(false,7),(true,8)] (by kernel_rfl) (by kernel_rfl) kd ?_
 simp only [aO,List.getElem?_cons_succ,List.getElem?_cons_zero]
 refine sq2p d 7 ?_
 refine sq2 (.agg #[.slice s1 s1n s1c,.slice s2 s2n s2c,.slice s3 s3n s3c,.slice s4 s4n s4c]) ?_ (fun w' hS => by have q0:=aa hS 7; have q1:=aa hS 8; have q2:=aa hS 9; have q3:=aa hS 10; go_simp)
 refine sq2p d 6 ?_
 refine sq2 (.slice rA rn rc) ?_ (fun w' hS => by have q0:=aa hS 6; go_simp)
 refine af 47 #[.agg #[.slice s1 s1n s1c,.slice s2 s2n s2c,.slice s3 s3n s3c,.slice s4 s4n s4c]] (by go_simp) ?_
 refine Calls.mono (C47.out _ HB.out) ?_
 rintro e wp1 ⟨rfl,hbp1⟩
 replace kd:=ai kd hbp1
 replace HB:=qH (HB.out.trans (hbp1.mono HB.out.size))
 clear hbp1
 refine ⟨_,rfl,kd,?_⟩
 simp only [Act.put,PutA,PutZ,PutS]
 refine af 48 #[.slice rA rn rc] (by go_simp) ?_
 refine Calls.mono (C48.out _ HB.out) ?_
 rintro e wp2 ⟨rfl,hbp2⟩
 replace kd:=ai kd hbp2
 replace HB:=qH (HB.out.trans (hbp2.mono HB.out.size))
 clear hbp2
 refine ⟨_,rfl,kd,?_⟩
 simp only [Act.put,PutA,PutZ,PutS]
 refine au (.slice (some ⟨wp2.heap.size,0,none⟩) 2 2) (wp2.alloc (.cells #[.int .i64 E1,.int .i64 E2] 23)) (by go_simp) ?_ ?_
 ·exact ai kd (ag wp2 _)
 have hnp3:(wp2.alloc (.cells #[.int .i64 E1,.int .i64 E2] 23)).heap[wp2.heap.size]? = some (.cells #[.int .i64 E1,.int .i64 E2] 23 (0,0)):=heap_alloc_new _ _
 have hbp3:=ag wp2 (.cells #[.int .i64 E1,.int .i64 E2] 23)
 obtain ⟨wp3,hwp3⟩:=gX (wp2.alloc (.cells #[.int .i64 E1,.int .i64 E2] 23))
 obtain ⟨gp3,hgp3⟩:=gX (wp2.heap.size)
 rw [<- hwp3] at hnp3 hbp3 ⊢
 rw [<- hgp3] at hnp3 ⊢
 replace kd:=ai kd hbp3
 replace HB:=qH (HB.out.trans (hbp3.mono HB.out.size))
 clear hwp3 hgp3 hbp3
 simp only [Act.put,PutA,PutZ,PutS]
 refine af 46 #[.slice (some ⟨gp3,0,none⟩) 2 2] (by go_simp) ?_
 refine Calls.mono (bu [E1,E2] hnp3 rfl (by simp)) ?_
 rintro e wp4 ⟨rfl,rfl⟩
 refine ⟨_,rfl,kd,?_⟩
 simp only [Act.put,PutA,PutZ,PutS]
 refine sq2i (aS [E1,E2]) ?_
 refine ad ?_
 obtain ⟨ER,hER⟩:=gX (aS [E1,E2])
 rw [<- hER] at HS ⊢
 clear hER
 obtain ⟨w1,hw1⟩:=gX (wp3)
 rw [<- hw1] at HB kd ⊢
 clear hw1 C47 C48 Kd
 by_cases hr1:ER = 0
 case neg =>
  have br:(ER == 0) = false:=by rw [beq_eq_false_iff_ne]; exact hr1
  have HF:=qH (show V = ER by rw [HS.out,thenE,if_pos hr1])
  clear HS hr1 kd
  go_wp2_with fail
  go_ret
  exact ⟨by rw [HF.out]; rfl,HB.out⟩
 subst hr1
 replace HS:=qH (show V = _ from HS.out.trans (if_neg (by decide)))
 have C49:=qH (new49 G w1 (.slice fA fn fc) (.slice ua0 un0 uc0) (.int .i64 ui1) (.int .i64 ui2) (.slice ua3 un3 uc3) (.slice ua4 un4 uc4) (.slice s3 s3n s3c) (.slice s4 s4n s4c) rA s1 s2 rn rc s1n s1c s2n s2c stg.1 stg.2.1 rr (HSt.out.below aF HG.out HB.out) (HLs.out.below aL HG.out HB.out) (HRv.out.below bg HG.out HB.out) (fun b h => Nat.lt_of_lt_of_le (HG.out b h) HB.out.size))
 have e0:=aa kd 0
 have e1:=aa kd 1
 have e2:=aa kd 2
 have e3:=aa kd 3
 have e4:=aa kd 4
 have e5:=aa kd 5
 have e6:=aa kd 6
 have e7:=aa kd 7
 have e8:=aa kd 8
 have e9:=aa kd 9
 have e10:=aa kd 10
 go_wp2_with fail
 refine C49.out.mono ?_
 rintro e w3 ⟨K,rfl,hb3,hk3,kN,kS,kL,kR⟩
 have HK3:=qH hk3
 have HB3:Hid (Below w.heap.size w w3):=qH (HB.out.trans (hb3.mono HB.out.size))
 have HKN:Hid (K.N = w1.heap.size∧K.st = stT stg.1∧K.ls = lsT stg.2.1∧K.rv = rvT rr):=qH ⟨kN,kS,kL,kR⟩
 have Kd3:=qH (ai kd hb3)
 have HLE:Hid (w.heap.size≤K.N):=qH (by rw [kN]; exact HB.out.size)
 have HDN:Hid (d < K.N):=qH (by rw [kN]; exact ae kd)
 clear hb3 hk3 kN kS kL kR kd HB C49 e0 e1 e2 e3 e4 e5 e6 e7 e8 e9 e10
 obtain ⟨E3,hE3⟩:=gX (hedT 3 K.st K.ls K.rv hd)
 have C50:Hid (∀ W,Below w3.heap.size w3 W→Calls Tryz.prog 50 #[.pointer (some ⟨K.c,0,none⟩),.int .i64 3,.agg #[.slice ua0 un0 uc0,.int .i64 ui1,.int .i64 ui2,.slice ua3 un3 uc3,.slice ua4 un4 uc4]] W (RetI E3 W)):=qH (fun W hW => by
  rw [hE3]
  have hww:=HB3.out.trans (hW.mono HB3.out.size)
  exact headK (HK3.out.over hW) 3 (Rp.below ay HH.out HG.out hww) (fun b h => Nat.lt_of_lt_of_le (HG.out b h) hww.size))
 obtain ⟨qe,hqe⟩:=gX ((decide (hd.2.1≠0) || decide (hd.2.2.1≠0) || decide (0 < hd.2.2.2.1.length)))
 obtain ⟨E4,hE4⟩:=gX (orE qe 21)
 obtain ⟨EE,hEE⟩:=gX (aS [E3,E4])
 obtain ⟨r,hr⟩:=gX (itsS K n fl (true,false,0) (fun _ => false,0))
 replace HS:=qH (show V = thenE EE (thenE r.1 (orE (decide (16384 < r.2.2)) 9)) by
  have e1:endE (n:=n) (fl,hd,rr,stg) = EE:=by
   rw [hEE,hE3,hE4,hqe]
   unfold endE docK ckOf
   rw [HKN.out.2.1,HKN.out.2.2.1,HKN.out.2.2.2]
  have e2:flowR (n:=n) (fl,hd,rr,stg) = r:=by
   rw [hr]
   unfold flowR
   rw [itsS_ext (K:=K) (K':=docK (n:=n) (fl,hd,rr,stg)) HKN.out.2.1 HKN.out.2.2.1 HKN.out.2.2.2 n]
  rw [HS.out,e1,e2])
 have HQE:=qH (show qe = (decide (ui1≠0) || decide (ui2≠0) || decide (0 < un3)) by rw [hqe,HDL.out,HUI.out.1,HUI.out.2])
 have HHR:=qH hr
 obtain ⟨m,hm⟩:=gX (w3.heap.size)
 obtain ⟨w4,hw4⟩:=gX (w3.alloc (.cells #[.int .i64 ui1,.int .i64 ui2,.slice ua3 un3 uc3,.slice ua4 un4 uc4] 38))
 have Km:Hid (w4.heap[m]? = some (.cells #[.int .i64 ui1,.int .i64 ui2,.slice ua3 un3 uc3,.slice ua4 un4 uc4] 38 (0,0))):=qH (by rw [hw4]; exact ah _ _ hm)
 have hb4:Below w3.heap.size w3 w4:=by rw [hw4]; exact ag _ _
 have HB4:=qH hb4
 have HHM:=qH hm
 have HHW:=qH hw4
 have C50':Hid (∀ W,Below w4.heap.size w4 W→Calls Tryz.prog 50 #[.pointer (some ⟨K.c,0,none⟩),.int .i64 3,.agg #[.slice ua0 un0 uc0,.int .i64 ui1,.int .i64 ui2,.slice ua3 un3 uc3,.slice ua4 un4 uc4]] W (RetI E3 W)):=qH (fun W hW => C50.out W (HB4.out.trans (hW.mono HB4.out.size)))
 have C51:Hid (∀ W,Calls Tryz.prog 51 #[.bool qe,.int .i64 21] W fun e w' => e = .returned (.int .i64 E4)∧W = w'):=qH (fun W => by rw [hE4]; exact bo qe 21 W)
 have HEE:=qH hEE
 have e2:=aa Kd3.out 2
 have e3:=aa Kd3.out 3
 have e4:=aa Kd3.out 4
 have e5:=aa Kd3.out 5
 clear hE3 hqe hE4 hEE hr hm hw4 hb4 C50
 go_upto_region 6 with fail
 rw [<- HHW.out,<- HHM.out]
 clear HHW HHM e2 e3 e4 e5
 have HQ:=qH (Below.refl w4.heap.size w4)
 go_cut [6] from 24 to 44 (fun bv wr => bv = .int .i64 EE∧Hid (Below w4.heap.size w4 wr))
 case first =>
  have DE:=qH HEE.out.symm
  have kd:=ai Kd3.out HB4.out
  have km:=Km.out
  have C50:=C50'
  clear C50'
  by_cases p1:ui1 = 0
  case neg =>
   have f1:(ui1 == 0) = false:=by simp [p1]
   have f2:(ui1 != 0) = true:=by simp [p1]
   have hq:qe = true:=by rw [HQE.out]; simp [p1]
   rw [hq] at C51
   clear p1
   replace kd:w4.drew.heap[d]? = some (.cells #[.slice fA fn fc,.slice ua0 un0 uc0,.int .i64 ui1,.int .i64 ui2,.slice ua3 un3 uc3,.slice ua4 un4 uc4,.slice rA rn rc,.slice s1 s1n s1c,.slice s2 s2n s2c,.slice s3 s3n s3c,.slice s4 s4n s4c] 49 (0,0)):=kd
   replace km:w4.drew.heap[m]? = some (.cells #[.int .i64 ui1,.int .i64 ui2,.slice ua3 un3 uc3,.slice ua4 un4 uc4] 38 (0,0)):=km
   replace HQ:=qH HQ.out.drew
   refine aI (S:=fun w' => w'.heap[d]? = some (.cells #[.slice fA fn fc,.slice ua0 un0 uc0,.int .i64 ui1,.int .i64 ui2,.slice ua3 un3 uc3,.slice ua4 un4 uc4,.slice rA rn rc,.slice s1 s1n s1c,.slice s2 s2n s2c,.slice s3 s3n s3c,.slice s4 s4n s4c] 49 (0,0))∧w'.heap[m]? = some (.cells #[.int .i64 ui1,.int .i64 ui2,.slice ua3 un3 uc3,.slice ua4 un4 uc4] 38 (0,0))) [(true,0),(true,1),(true,2),(true,4),(true,5),(true,6),(false,3),(true,7),(true,8),(true,9),(true,10),(true,11),(true,12),(true,13),(true,14),(true,15),(true,16),(true,17),(false,18),(false,19),(false,20),(true,21)] (by kernel_rfl) (by kernel_rfl) ⟨kd,km⟩ ?_
   simp only [aO,List.getElem?_cons_succ,List.getElem?_cons_zero]
   refine gd1p (K.c) 0 ?_
   refine gd1p d 1 ?_
   refine gd1 (.agg #[.slice ua0 un0 uc0,.int .i64 ui1,.int .i64 ui2,.slice ua3 un3 uc3,.slice ua4 un4 uc4]) ?_ (fun w' hS => by have q0:=aa hS.1 1; have q1:=aa hS.1 2; have q2:=aa hS.1 3; have q3:=aa hS.1 4; have q4:=aa hS.1 5; go_simp)
   refine gd1p m 0 ?_
   refine gd1i ui1 ?_ (fun w' hS => by have q0:=aa hS.2 0; go_simp)
   refine gd1b true ?_
   refine ax rfl ?_
   refine af 50 #[.pointer (some ⟨K.c,0,none⟩),.int .i64 3,.agg #[.slice ua0 un0 uc0,.int .i64 ui1,.int .i64 ui2,.slice ua3 un3 uc3,.slice ua4 un4 uc4]] (by go_simp) ?_
   refine Calls.mono (C50.out _ HQ.out) ?_
   rintro e wq1 ⟨rfl,hbq1⟩
   replace kd:=ai kd hbq1
   replace km:=ai km hbq1
   replace HQ:=qH (HQ.out.trans (hbq1.mono HQ.out.size))
   clear hbq1
   refine ⟨_,rfl,⟨kd,km⟩,?_⟩
   refine ad ?_
   simp only [Act.put,PutA,PutZ,PutS]
   refine gd1b true ?_
   refine aA rfl ?_
   simp only [Act.put,PutA,PutZ,PutS]
   refine aA rfl ?_
   simp only [Act.put,PutA,PutZ,PutS]
   refine aA rfl ?_
   simp only [Act.put,PutA,PutZ,PutS]
   refine gd1b true ?_
   refine gd1b true ?_
   refine aA rfl ?_
   simp only [Act.put,PutA,PutZ,PutS]
   refine aA rfl ?_
   simp only [Act.put,PutA,PutZ,PutS]
   refine aA rfl ?_
   simp only [Act.put,PutA,PutZ,PutS]
   refine aA rfl ?_
   simp only [Act.put,PutA,PutZ,PutS]
   refine gd1b true ?_
   refine ax rfl ?_
   refine af 51 #[.bool true,.int .i64 21] (by go_simp) ?_
   refine Calls.mono (C51.out _) ?_
   rintro e wq2 ⟨rfl,rfl⟩
   refine ⟨_,rfl,⟨kd,km⟩,?_⟩
   refine ad ?_
   simp only [Act.put,PutA,PutZ,PutS]
   refine ax rfl ?_
   refine au (.slice (some ⟨wq1.heap.size,0,none⟩) 2 2) (wq1.alloc (.cells #[.int .i64 E3,.int .i64 E4] 23)) (by go_simp) ?_ ?_
   ·exact ⟨ai kd (ag wq1 _),ai km (ag wq1 _)⟩
   refine ad ?_
   have hnq3:(wq1.alloc (.cells #[.int .i64 E3,.int .i64 E4] 23)).heap[wq1.heap.size]? = some (.cells #[.int .i64 E3,.int .i64 E4] 23 (0,0)):=heap_alloc_new _ _
   have hbq3:=ag wq1 (.cells #[.int .i64 E3,.int .i64 E4] 23)
   obtain ⟨wq3,hwq3⟩:=gX (wq1.alloc (.cells #[.int .i64 E3,.int .i64 E4] 23))
   obtain ⟨gq3,hgq3⟩:=gX (wq1.heap.size)
   rw [<- hwq3] at hnq3 hbq3 ⊢
   rw [<- hgq3] at hnq3 ⊢
   replace kd:=ai kd hbq3
   replace km:=ai km hbq3
   replace HQ:=qH (HQ.out.trans (hbq3.mono HQ.out.size))
   clear hwq3 hgq3 hbq3
   simp only [Act.put,PutA,PutZ,PutS]
   refine ax rfl ?_
   refine af 46 #[.slice (some ⟨gq3,0,none⟩) 2 2] (by go_simp) ?_
   refine Calls.mono (bu [E3,E4] hnq3 rfl (by simp)) ?_
   rintro e wq4 ⟨rfl,rfl⟩
   refine ⟨_,rfl,⟨kd,km⟩,?_⟩
   refine ad ?_
   simp only [Act.put,PutA,PutZ,PutS]
   refine gd1i (aS [E3,E4]) ?_
   refine bF ?_
   go_wp2_with fail
   go_meet
   exact ⟨by rw [DE.out],HQ⟩
  have f1:(ui1 == 0) = true:=by simp [p1]
  have f2:(ui1 != 0) = false:=by simp [p1]
  by_cases p2:ui2 = 0
  case neg =>
   have f3:(ui2 == 0) = false:=by simp [p2]
   have f4:(ui2 != 0) = true:=by simp [p2]
   have hq:qe = true:=by rw [HQE.out]; simp [p2]
   rw [hq] at C51
   clear p1 p2
   replace kd:w4.drew.heap[d]? = some (.cells #[.slice fA fn fc,.slice ua0 un0 uc0,.int .i64 ui1,.int .i64 ui2,.slice ua3 un3 uc3,.slice ua4 un4 uc4,.slice rA rn rc,.slice s1 s1n s1c,.slice s2 s2n s2c,.slice s3 s3n s3c,.slice s4 s4n s4c] 49 (0,0)):=kd
   replace km:w4.drew.heap[m]? = some (.cells #[.int .i64 ui1,.int .i64 ui2,.slice ua3 un3 uc3,.slice ua4 un4 uc4] 38 (0,0)):=km
   replace HQ:=qH HQ.out.drew
   refine aI (S:=fun w' => w'.heap[d]? = some (.cells #[.slice fA fn fc,.slice ua0 un0 uc0,.int .i64 ui1,.int .i64 ui2,.slice ua3 un3 uc3,.slice ua4 un4 uc4,.slice rA rn rc,.slice s1 s1n s1c,.slice s2 s2n s2c,.slice s3 s3n s3c,.slice s4 s4n s4c] 49 (0,0))∧w'.heap[m]? = some (.cells #[.int .i64 ui1,.int .i64 ui2,.slice ua3 un3 uc3,.slice ua4 un4 uc4] 38 (0,0))) [(true,0),(true,1),(true,2),(true,4),(true,5),(true,6),(false,3),(true,7),(true,8),(true,9),(true,10),(true,11),(true,12),(true,13),(true,14),(true,15),(true,16),(true,17),(false,18),(false,19),(false,20),(true,21)] (by kernel_rfl) (by kernel_rfl) ⟨kd,km⟩ ?_
   simp only [aO,List.getElem?_cons_succ,List.getElem?_cons_zero]
   refine gd1p (K.c) 0 ?_
   refine gd1p d 1 ?_
   refine gd1 (.agg #[.slice ua0 un0 uc0,.int .i64 ui1,.int .i64 ui2,.slice ua3 un3 uc3,.slice ua4 un4 uc4]) ?_ (fun w' hS => by have q0:=aa hS.1 1; have q1:=aa hS.1 2; have q2:=aa hS.1 3; have q3:=aa hS.1 4; have q4:=aa hS.1 5; go_simp)
   refine gd1p m 0 ?_
   refine gd1i ui1 ?_ (fun w' hS => by have q0:=aa hS.2 0; go_simp)
   refine gd1b false ?_
   refine ax rfl ?_
   refine af 50 #[.pointer (some ⟨K.c,0,none⟩),.int .i64 3,.agg #[.slice ua0 un0 uc0,.int .i64 ui1,.int .i64 ui2,.slice ua3 un3 uc3,.slice ua4 un4 uc4]] (by go_simp) ?_
   refine Calls.mono (C50.out _ HQ.out) ?_
   rintro e wq1 ⟨rfl,hbq1⟩
   replace kd:=ai kd hbq1
   replace km:=ai km hbq1
   replace HQ:=qH (HQ.out.trans (hbq1.mono HQ.out.size))
   clear hbq1
   refine ⟨_,rfl,⟨kd,km⟩,?_⟩
   refine ad ?_
   simp only [Act.put,PutA,PutZ,PutS]
   refine gd1b false ?_
   refine gd1p m 1 ?_
   refine gd1i ui2 ?_ (fun w' hS => by have q0:=aa hS.2 1; go_simp)
   refine gd1b true ?_
   refine gd1b true ?_
   refine gd1b true ?_
   refine aA rfl ?_
   simp only [Act.put,PutA,PutZ,PutS]
   refine aA rfl ?_
   simp only [Act.put,PutA,PutZ,PutS]
   refine aA rfl ?_
   simp only [Act.put,PutA,PutZ,PutS]
   refine aA rfl ?_
   simp only [Act.put,PutA,PutZ,PutS]
   refine gd1b true ?_
   refine ax rfl ?_
   refine af 51 #[.bool true,.int .i64 21] (by go_simp) ?_
   refine Calls.mono (C51.out _) ?_
   rintro e wq2 ⟨rfl,rfl⟩
   refine ⟨_,rfl,⟨kd,km⟩,?_⟩
   refine ad ?_
   simp only [Act.put,PutA,PutZ,PutS]
   refine ax rfl ?_
   refine au (.slice (some ⟨wq1.heap.size,0,none⟩) 2 2) (wq1.alloc (.cells #[.int .i64 E3,.int .i64 E4] 23)) (by go_simp) ?_ ?_
   ·exact ⟨ai kd (ag wq1 _),ai km (ag wq1 _)⟩
   refine ad ?_
   have hnq3:(wq1.alloc (.cells #[.int .i64 E3,.int .i64 E4] 23)).heap[wq1.heap.size]? = some (.cells #[.int .i64 E3,.int .i64 E4] 23 (0,0)):=heap_alloc_new _ _
   have hbq3:=ag wq1 (.cells #[.int .i64 E3,.int .i64 E4] 23)
   obtain ⟨wq3,hwq3⟩:=gX (wq1.alloc (.cells #[.int .i64 E3,.int .i64 E4] 23))
   obtain ⟨gq3,hgq3⟩:=gX (wq1.heap.size)
   rw [<- hwq3] at hnq3 hbq3 ⊢
   rw [<- hgq3] at hnq3 ⊢
   replace kd:=ai kd hbq3
   replace km:=ai km hbq3
   replace HQ:=qH (HQ.out.trans (hbq3.mono HQ.out.size))
   clear hwq3 hgq3 hbq3
   simp only [Act.put,PutA,PutZ,PutS]
   refine ax rfl ?_
   refine af 46 #[.slice (some ⟨gq3,0,none⟩) 2 2] (by go_simp) ?_
   refine Calls.mono (bu [E3,E4] hnq3 rfl (by simp)) ?_
   rintro e wq4 ⟨rfl,rfl⟩
   refine ⟨_,rfl,⟨kd,km⟩,?_⟩
   refine ad ?_
   simp only [Act.put,PutA,PutZ,PutS]
   refine gd1i (aS [E3,E4]) ?_
   refine bF ?_
   go_wp2_with fail
   go_meet
   exact ⟨by rw [DE.out],HQ⟩
  have f3:(ui2 == 0) = true:=by simp [p2]
  have f4:(ui2 != 0) = false:=by simp [p2]
  obtain ⟨q3,hq3⟩:=gX (decide (0 < un3))
  have f5:decide ((0:Int) < (un3:Int)) = q3:=by rw [hq3]; by_cases h:0 < un3 <;> simp [h] <;> omega
  have f6:decide (0 < un3) = q3:=hq3.symm
  have hq:qe = q3:=by rw [HQE.out,hq3]; simp [p1,p2]
  rw [hq] at C51
  clear p1 p2 hq3
  replace kd:w4.drew.heap[d]? = some (.cells #[.slice fA fn fc,.slice ua0 un0 uc0,.int .i64 ui1,.int .i64 ui2,.slice ua3 un3 uc3,.slice ua4 un4 uc4,.slice rA rn rc,.slice s1 s1n s1c,.slice s2 s2n s2c,.slice s3 s3n s3c,.slice s4 s4n s4c] 49 (0,0)):=kd
  replace km:w4.drew.heap[m]? = some (.cells #[.int .i64 ui1,.int .i64 ui2,.slice ua3 un3 uc3,.slice ua4 un4 uc4] 38 (0,0)):=km
  replace HQ:=qH HQ.out.drew
  refine aI (S:=fun w' => w'.heap[d]? = some (.cells #[.slice fA fn fc,.slice ua0 un0 uc0,.int .i64 ui1,.int .i64 ui2,.slice ua3 un3 uc3,.slice ua4 un4 uc4,.slice rA rn rc,.slice s1 s1n s1c,.slice s2 s2n s2c,.slice s3 s3n s3c,.slice s4 s4n s4c] 49 (0,0))∧w'.heap[m]? = some (.cells #[.int .i64 ui1,.int .i64 ui2,.slice ua3 un3 uc3,.slice ua4 un4 uc4] 38 (0,0))) [(true,0),(true,1),(true,2),(true,4),(true,5),(true,6),(false,3),(true,7),(true,8),(true,9),(true,10),(true,11),(true,12),(true,13),(true,14),(true,15),(true,16),(true,17),(false,18),(false,19),(false,20),(true,21)] (by kernel_rfl) (by kernel_rfl) ⟨kd,km⟩ ?_
  simp only [aO,List.getElem?_cons_succ,List.getElem?_cons_zero]
  refine gd1p (K.c) 0 ?_
  refine gd1p d 1 ?_
  refine gd1 (.agg #[.slice ua0 un0 uc0,.int .i64 ui1,.int .i64 ui2,.slice ua3 un3 uc3,.slice ua4 un4 uc4]) ?_ (fun w' hS => by have q0:=aa hS.1 1; have q1:=aa hS.1 2; have q2:=aa hS.1 3; have q3:=aa hS.1 4; have q4:=aa hS.1 5; go_simp)
  refine gd1p m 0 ?_
  refine gd1i ui1 ?_ (fun w' hS => by have q0:=aa hS.2 0; go_simp)
  refine gd1b false ?_
  refine ax rfl ?_
  refine af 50 #[.pointer (some ⟨K.c,0,none⟩),.int .i64 3,.agg #[.slice ua0 un0 uc0,.int .i64 ui1,.int .i64 ui2,.slice ua3 un3 uc3,.slice ua4 un4 uc4]] (by go_simp) ?_
  refine Calls.mono (C50.out _ HQ.out) ?_
  rintro e wq1 ⟨rfl,hbq1⟩
  replace kd:=ai kd hbq1
  replace km:=ai km hbq1
  replace HQ:=qH (HQ.out.trans (hbq1.mono HQ.out.size))
  clear hbq1
  refine ⟨_,rfl,⟨kd,km⟩,?_⟩
  refine ad ?_
  simp only [Act.put,PutA,PutZ,PutS]
  refine gd1b false ?_
  refine gd1p m 1 ?_
  refine gd1i ui2 ?_ (fun w' hS => by have q0:=aa hS.2 1; go_simp)
  refine gd1b false ?_
  refine gd1b false ?_
  refine gd1b false ?_
  refine gd1p m 2 ?_
  refine gd1 (.slice ua3 un3 uc3) ?_ (fun w' hS => by have q0:=aa hS.2 2; go_simp)
  refine gd1i (un3:Int) ?_
  refine gd1b q3 ?_
  refine gd1b q3 ?_
  refine ax rfl ?_
  refine af 51 #[.bool q3,.int .i64 21] (by go_simp) ?_
  refine Calls.mono (C51.out _) ?_
  rintro e wq2 ⟨rfl,rfl⟩
  refine ⟨_,rfl,⟨kd,km⟩,?_⟩
  refine ad ?_
  simp only [Act.put,PutA,PutZ,PutS]
  refine ax rfl ?_
  refine au (.slice (some ⟨wq1.heap.size,0,none⟩) 2 2) (wq1.alloc (.cells #[.int .i64 E3,.int .i64 E4] 23)) (by go_simp) ?_ ?_
  ·exact ⟨ai kd (ag wq1 _),ai km (ag wq1 _)⟩
  refine ad ?_
  have hnq3:(wq1.alloc (.cells #[.int .i64 E3,.int .i64 E4] 23)).heap[wq1.heap.size]? = some (.cells #[.int .i64 E3,.int .i64 E4] 23 (0,0)):=heap_alloc_new _ _
  have hbq3:=ag wq1 (.cells #[.int .i64 E3,.int .i64 E4] 23)
  obtain ⟨wq3,hwq3⟩:=gX (wq1.alloc (.cells #[.int .i64 E3,.int .i64 E4] 23))
  obtain ⟨gq3,hgq3⟩:=gX (wq1.heap.size)
  rw [<- hwq3] at hnq3 hbq3 ⊢
  rw [<- hgq3] at hnq3 ⊢
  replace kd:=ai kd hbq3
  replace km:=ai km hbq3
  replace HQ:=qH (HQ.out.trans (hbq3.mono HQ.out.size))
  clear hwq3 hgq3 hbq3
  simp only [Act.put,PutA,PutZ,PutS]
  refine ax rfl ?_
  refine af 46 #[.slice (some ⟨gq3,0,none⟩) 2 2] (by go_simp) ?_
  refine Calls.mono (bu [E3,E4] hnq3 rfl (by simp)) ?_
  rintro e wq4 ⟨rfl,rfl⟩
  refine ⟨_,rfl,⟨kd,km⟩,?_⟩
  refine ad ?_
  simp only [Act.put,PutA,PutZ,PutS]
  refine gd1i (aS [E3,E4]) ?_
  refine bF ?_
  go_wp2_with fail
  go_meet
  exact ⟨by rw [DE.out],HQ⟩
 clear HQ C50' C51 HQE HEE Km
 obtain ⟨rfl,HQ⟩:=hcut
 have HBc:Hid (Below w3.heap.size w3 wc):=qH (HB4.out.trans (HQ.out.mono HB4.out.size))
 have HKc:=qH (HK3.out.over HBc.out)
 have HB:=qH (HB3.out.trans (HBc.out.mono HB3.out.size))
 have Kdc:=qH (ai Kd3.out HBc.out)
 clear HQ HBc HB4 HB3 HK3 Kd3
 by_cases hr2:EE = 0
 case neg =>
  have br:(EE == 0) = false:=by rw [beq_eq_false_iff_ne]; exact hr2
  have HF:=qH (show V = EE by rw [HS.out,thenE,if_pos hr2])
  clear HS hr2
  go_wp2_with fail
  go_ret
  exact ⟨by rw [HF.out]; rfl,HB.out⟩
 subst hr2
 replace HS:=qH (show V = _ from HS.out.trans (if_neg (by decide)))
 have HC:=qH (check_items K n G (fun b h => Nat.lt_of_lt_of_le (HG.out b h) HLE.out) _ fl (true,false,0) (fun _ => false,0) wc HKc.out (HFl.out.below (aV n) HG.out HB.out) HZF.out)
 rw [<- HHR.out] at HC
 unfold plcV at HC
 simp only at HC
 have e0:=aa Kdc.out 0
 go_wp2_with fail
 refine HC.out.mono ?_
 rintro e w5 ⟨rfl,hch,hck⟩
 have HK5:=qH hck
 have HB5:Hid (Below w.heap.size w w5):=qH (HB.out.trans (hch.below (Nat.le_trans HLE.out HKc.out.nc) (Nat.le_trans HLE.out HKc.out.nm) HB.out.size))
 clear HC hch hck HB HKc Kdc e0
 have HB:=HB5
 clear HB5
 obtain ⟨r1,rB,ru⟩:=r
 simp only at HK5 HS ⊢
 by_cases hr3:r1 = 0
 case neg =>
  have br:(r1 == 0) = false:=by rw [beq_eq_false_iff_ne]; exact hr3
  have HF:=qH (show V = r1 by rw [HS.out,thenE,if_pos hr3])
  clear HS hr3
  go_wp2_with fail
  go_ret
  exact ⟨by rw [HF.out]; rfl,HB.out⟩
 subst hr3
 obtain ⟨q,hq⟩:=gX (decide (16384 < ru))
 obtain ⟨E5,hE5⟩:=gX (orE q 9)
 have HF:=qH (show V = E5 from HS.out.trans ((if_neg (by decide)).trans (by rw [hE5,hq])))
 have C51:Hid (∀ W,Calls Tryz.prog 51 #[.bool q,.int .i64 9] W fun e w' => e = .returned (.int .i64 E5)∧W = w'):=qH (fun W => by rw [hE5]; exact bo q 9 W)
 have fq:=hq.symm
 have c5:=aa HK5.out.blk 5
 clear HS hq hE5
 go_wp2_with fail
 refine (C51.out _).mono ?_
 rintro e w6 ⟨rfl,rfl⟩
 clear C51 c5
 go_wp2_with fail
 go_ret
 exact ⟨by rw [HF.out]; rfl,HB.out⟩
end Go.Proofs.YtmhhcfceikcfbaaGreat
