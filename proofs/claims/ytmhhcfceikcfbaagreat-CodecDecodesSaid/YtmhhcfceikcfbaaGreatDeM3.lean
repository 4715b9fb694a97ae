/- Walks: the head of an element checked. -/
import Derived.Test.YtmhhcfceikcfbaaGreatDeM2
namespace Go.Proofs.YtmhhcfceikcfbaaGreat
open Go.RowKit
set_option maxRecDepth 100000
set_option maxHeartbeats 4000000
theorem clo110 (G:Nat→Prop) (w:World) (A:Option Addr) (cp:Nat) (l:List Lay) (el:Int) (i:Nat) (hi:i < l.length) (hv:Slv layP 4 w G (.slice A l.length cp) l) (hG:∀ b,G b→b < w.heap.size) (c m1 m2 m3 m4 m5:Nat) (u:Int) (st:Int→Option Int) (ls rv:Int→Bool) (hcb:w.heap[c]? = some (.cells #[.map (some m1),.map (some m2),.map (some m3),.map (some m4),.map (some m5),.int .i64 u] 130 (0,0))) (h1:bh st m1 w) (h2:aT ls m2 w) (h3:aT rv m3 w) (g1 g2 g3:Nat) (v0 v1 v2:Value) (k1:w.heap[g1]? = some (.cells #[.pointer (some ⟨c,0,none⟩)] 120 (0,0))) (k2:w.heap[g2]? = some (.cells #[.int .i64 el] 3 (0,0))) (k3:w.heap[g3]? = some (.cells #[v0,v1,v2,.slice A l.length cp] 38 (0,0))):Calls Tryz.prog 110 #[.int .i64 (i:Int),.pointer (some ⟨g1,0,none⟩),.pointer (some ⟨g2,0,none⟩),.pointer (some ⟨g3,0,none⟩)] w (RetI (layT el st ls rv l i) w):=by
 obtain ⟨V,hV⟩:=gX (layT el st ls rv l i)
 have C:=qH (layer111 G w A cp l el i hi hv hG c m1 m2 m3 m4 m5 u st ls rv hcb h1 h2 h3)
 rw [<- hV] at C ⊢
 obtain ⟨n,hn⟩:=gX (l.length)
 rw [<- hn] at C k3
 have c1:=aa k1 0
 have c2:=aa k2 0
 have c3:=aa k3 3
 clear hV hv h1 h2 h3 hcb k1 k2 k3 hi hn hG
 go_enter Tryz.func110,Tryz.ntmps110
 go_wp2_with fail
 refine C.out.mono ?_
 rintro e w1 ⟨rfl,hb⟩
 have HB:=qH hb
 clear hb c1 c2 c3 C
 go_wp2_with fail
 go_ret
 exact ⟨rfl,HB.out⟩
def thenE (a b:Int):Int:=if a≠0 then a else b
def rfT (st:Int→Option Int) (ls:Int→Bool) (l:List Two) (i:Nat):Int:=match l[i]? with
 | some x => refE st ls x.1 x.2
 | none => 0
def prevD (l:List Two) (i:Nat):Option Int:=if i = 0 then none else (l[i - 1]?).map fun y => y.1
def leO (x:Int) (o:Option Int):Bool:=match o with
 | some y => decide (x≤y)
 | none => false
def idB (n:Int):Bool:=decide (0≤n) && decide (n≤1073741824)
def delT (rv:Int→Bool) (l:List Two) (i:Nat):Int:=match l[i]? with
 | some x => if rv x.1 = false then 22 else if leO x.1 (prevD l i) = true then 6 else if idB x.2 = false then 21 else 0
 | none => 0
def hedT (el:Int) (st:Int→Option Int) (ls rv:Int→Bool) (h:Hd):Int :=
 thenE (propC el h.1) (thenE (allR (rfT st ls h.1) h.1.length 0) (
  if (decide (h.2.1≠0) && !(rv h.2.1)) = true then 22 else if (!(idB h.2.2.1) || decide (h.2.2.1≠0) && decide (h.2.1 = 0)) = true then 21 else if 16 < h.2.2.2.1.length then 9 else
  thenE (allR (delT rv h.2.2.2.1) h.2.2.2.1.length 0) (if 64 < h.2.2.2.2.length then 9 else allR (layT el st ls rv h.2.2.2.2) h.2.2.2.2.length 0)))
theorem thenE_step (f:Nat→Int) (R:Int) (n i:Nat) (hi:i < n):thenE (allR f (n - i) i) R = if f i≠0 then f i else thenE (allR f (n - (i + 1)) (i + 1)) R:=by
 rw [show n - i = (n - (i + 1)) + 1 by omega,allR]
 by_cases h:f i≠0
 ·rw [if_pos h,if_pos h,thenE,if_pos h]
 rw [if_neg h,if_neg h]
theorem thenE_end (f:Nat→Int) (R:Int) (n:Nat):thenE (allR f (n - n) n) R = R:=by
 rw [Nat.sub_self,allR,thenE,if_neg (by decide)]
theorem head50 (G:Nat→Prop) (w:World) (vs:List Value) (x:Hd) (el:Int) (hH:hdP w G vs x) (hG:∀ b,G b→b < w.heap.size) (c m1 m2 m3 m4 m5:Nat) (u:Int) (st:Int→Option Int) (ls rv:Int→Bool) (hcb:w.heap[c]? = some (.cells #[.map (some m1),.map (some m2),.map (some m3),.map (some m4),.map (some m5),.int .i64 u] 130 (0,0))) (h1:bh st m1 w) (h2:aT ls m2 w) (h3:aT rv m3 w):Calls Tryz.prog 50 #[.pointer (some ⟨c,0,none⟩),.int .i64 el,.agg vs.toArray] w (RetI (hedT el st ls rv x) w):=by
 obtain ⟨pv,dv,lv,rfl,_,_,hP,hD,hL⟩:=hH
 obtain ⟨x0,x1,x2,x3,x4⟩:=x
 simp only at hP hD hL ⊢
 obtain ⟨V,hV⟩:=gX (hedT el st ls rv (x0,x1,x2,x3,x4))
 rw [<- hV]
 unfold hedT at hV
 simp only at hV
 obtain ⟨pA,pc,rfl,hp1,hp2⟩:=hP.shape
 obtain ⟨dA,dc,rfl,hd1,hd2⟩:=hD.shape
 obtain ⟨lA,lc,rfl,hl1,hl2⟩:=hL.shape
 unfold maxLen at hp2 hd2 hl2
 obtain ⟨R1,hR1⟩:=gX (propC el x0)
 obtain ⟨R2,hR2⟩:=gX (allR (layT el st ls rv x4) x4.length 0)
 have C1:Hid (∀ W,Below w.heap.size w W→Calls Tryz.prog 108 #[.int .i64 el,.slice pA x0.length pc] W (RetI R1 W)):=qH (fun W hW => by rw [hR1]; exact check108 el G W _ _ (hP.below am hG hW))
 have C2:Hid (∀ W g1 g2 g3,Below w.heap.size w W→W.heap[g1]? = some (.cells #[.pointer (some ⟨c,0,none⟩)] 120 (0,0))→W.heap[g2]? = some (.cells #[.int .i64 el] 3 (0,0))→W.heap[g3]? = some (.cells #[.int .i64 x1,.int .i64 x2,.slice dA x3.length dc,.slice lA x4.length lc] 38 (0,0)) →
   Calls Tryz.prog 102 #[.int .i64 (x4.length:Int),.func (.func 110) #[] #[.pointer (some ⟨g1,0,none⟩),.pointer (some ⟨g2,0,none⟩),.pointer (some ⟨g3,0,none⟩)]] W (RetI R2 W)):=qH (fun W g1 g2 g3 hW k1 k2 k3 => by
  rw [hR2]
  exact allB 110 _ (ent 110 _ _ Tryz.func110 (by kernel_rfl) rfl) x4.length (by omega) _ W (fun i hi W' hW' => by
   have hww:=hW.trans (hW'.mono hW.size)
   exact clo110 G W' lA lc x4 el i hi (hL.below bD hG hww) (fun b h => Nat.lt_of_lt_of_le (hG b h) hww.size) c m1 m2 m3 m4 m5 u st ls rv ((hww.block c (ae hcb)).trans hcb) (h1.over hww) (h2.over hww) (h3.over hww) g1 g2 g3 _ _ _ (ai k1 hW') (ai k2 hW') (ai k3 hW')))
 rw [<- hR1,<- hR2] at hV
 have HP:=qH hP
 have HD:=qH hD
 clear hR1 hR2 hP hD hL
 obtain ⟨pn,hpn⟩:=gX (x0.length)
 obtain ⟨dn,hdn⟩:=gX (x3.length)
 obtain ⟨ln,hln⟩:=gX (x4.length)
 rw [<- hpn] at hp1 hV C1 HP ⊢
 rw [<- hdn] at hd1 hV C2 HD ⊢
 rw [<- hln] at hl1 hV C2 ⊢
 have HPN:=qH hpn
 have HDN:=qH hdn
 have HS:=qH hV
 have HG:=qH hG
 clear hV hpn hdn hln hG
 obtain ⟨g1,hg1⟩:=gX (w.heap.size)
 obtain ⟨g2,hg2⟩:=gX (w.heap.size + 1)
 obtain ⟨g3,hg3⟩:=gX (w.heap.size + 1 + 1)
 obtain ⟨W0,hW0⟩:=gX (((w.alloc (.cells #[.pointer (some ⟨c,0,none⟩)] 120)).alloc (.cells #[.int .i64 el] 3)).alloc (.cells #[.slice pA pn pc,.int .i64 x1,.int .i64 x2,.slice dA dn dc,.slice lA ln lc] 40))
 have hz1:(w.alloc (.cells #[.pointer (some ⟨c,0,none⟩)] 120)).heap.size = w.heap.size + 1:=Array.size_push _
 have hz2:((w.alloc (.cells #[.pointer (some ⟨c,0,none⟩)] 120)).alloc (.cells #[.int .i64 el] 3)).heap.size = w.heap.size + 1 + 1:=by rw [show ∀ (W:World) (o:Obj),(W.alloc o).heap.size = W.heap.size + 1 from fun W o => Array.size_push _,hz1]
 have a1:=ag w (.cells #[.pointer (some ⟨c,0,none⟩)] 120)
 have a2:=ag (w.alloc (.cells #[.pointer (some ⟨c,0,none⟩)] 120)) (.cells #[.int .i64 el] 3)
 have a3:=ag ((w.alloc (.cells #[.pointer (some ⟨c,0,none⟩)] 120)).alloc (.cells #[.int .i64 el] 3)) (.cells #[.slice pA pn pc,.int .i64 x1,.int .i64 x2,.slice dA dn dc,.slice lA ln lc] 40)
 have K3:Hid (W0.heap[g3]? = some (.cells #[.slice pA pn pc,.int .i64 x1,.int .i64 x2,.slice dA dn dc,.slice lA ln lc] 40 (0,0))):=qH (by rw [hW0]; exact ah _ _ (hg3.trans hz2.symm))
 have K2:Hid (W0.heap[g2]? = some (.cells #[.int .i64 el] 3 (0,0))):=qH (by rw [hW0]; exact ai (ah _ _ (hg2.trans hz1.symm)) a3)
 have K1:Hid (W0.heap[g1]? = some (.cells #[.pointer (some ⟨c,0,none⟩)] 120 (0,0))):=qH (by rw [hW0]; exact ai (ai (ah _ _ hg1) a2) a3)
 have HB0:Hid (Below w.heap.size w W0):=qH (by rw [hW0]; exact a1.trans ((a2.trans (a3.mono a2.size)).mono a1.size))
 have Hcb:Hid (W0.heap[c]? = some (.cells #[.map (some m1),.map (some m2),.map (some m3),.map (some m4),.map (some m5),.int .i64 u] 130 (0,0))):=qH (ai hcb HB0.out)
 have H1:=qH (bh.over h1 HB0.out)
 have H2:=qH (aT.over h2 HB0.out)
 have H3:=qH (aT.over h3 HB0.out)
 have HB:=qH (Below.refl W0.heap.size W0)
 have HW:=qH hW0
 have G1:=qH hg1
 have G2:=qH hg2
 have G3:=qH hg3
 clear hcb h1 h2 h3 a1 a2 a3 hz1 hz2 hg1 hg2 hg3 hW0
 go_enter Tryz.func50,Tryz.ntmps50
 go_upto_region 1 with fail
 rw [<- HW.out,<- G3.out,<- G2.out,<- G1.out]
 clear HW G1 G2 G3
 have k2:=K2.out
 have k3:=K3.out
 refine ac (by rfl) ?_
 simp only [List.map]
 refine sq1i el ?_ (by have q0:=aa k2 0; go_simp)
 refine sq1p g3 0 ?_
 refine sq1 (.slice pA pn pc) ?_ (by have q0:=aa k3 0; go_simp)
 refine af 108 #[.int .i64 el,.slice pA pn pc] (by go_simp) ?_
 refine Calls.mono (C1.out _ HB0.out) ?_
 rintro e wp1 ⟨rfl,hbp1⟩
 replace k2:=ai k2 hbp1
 replace k3:=ai k3 hbp1
 replace HB:=qH (HB.out.trans (hbp1.mono HB.out.size))
 clear hbp1
 refine ⟨_,rfl,trivial,?_⟩
 simp only [Act.put,PutA,PutZ,PutS]
 refine sq1i R1 ?_
 refine ad ?_
 clear k2 k3
 by_cases hr1:R1 = 0
 case neg =>
  have br:(R1 == 0) = false:=by rw [beq_eq_false_iff_ne]; exact hr1
  have HF:=qH (show V = R1 by rw [HS.out,thenE,if_pos hr1])
  clear HS hr1
  go_wp2_with fail
  go_ret
  exact ⟨by rw [HF.out]; rfl,HB0.out.trans (HB.out.mono HB0.out.size)⟩
 subst hr1
 replace HS:=qH (show V = _ from HS.out.trans (if_neg (by decide)))
 have k3:=ai K3.out HB.out
 have c0:=aa k3 0
 clear k3
 go_wp2_with fail
 clear c0
 go_loopw [24] (fun iv wr => ∃ i:Nat,iv = .int .i64 (i:Int)∧i≤pn∧Hid (V = thenE (allR (rfT st ls x0) (pn - i) i) (if (decide (x1≠0) && !(rv x1)) = true then 22 else if (!(idB x2) || decide (x2≠0) && decide (x1 = 0)) = true then 21 else if 16 < dn then 9 else thenE (allR (delT rv x3) dn 0) (if 64 < ln then 9 else R2)))∧Hid (Below W0.heap.size W0 wr)) (fun iv _ => pn - (intOf iv).toNat)
 case atStart => exact ⟨0,rfl,Nat.zero_le _,HS,HB⟩
 obtain ⟨i,rfl,hin,HT,HBr⟩:=hrel
 clear HB HS
 have HB:=HBr
 by_cases hlt:i < pn
 ·have hlt':(i:Int) < (pn:Int):=by omega
  obtain ⟨y,hy⟩:∃ y,x0[i]? = some y:=⟨_,List.getElem?_eq_getElem (by rw [<- HPN.out]; exact hlt)⟩
  obtain ⟨b3,o3,us,hA3,_,hbw3,_,hRy,hds⟩:=HP.out.at i y hy
  subst hA3
  have hD:=EltS.below (w:=w) hds hbw3 (HB0.out.trans (HB.out.mono HB0.out.size))
  obtain ⟨y0,y1⟩:=y
  obtain ⟨rfl,_⟩:=hRy
  have d0:=hD 0 _ rfl
  have d1:=hD 1 _ rfl
  simp only [Nat.add_zero] at d0
  obtain ⟨E,hE⟩:=gX (refE st ls y0 y1)
  have C:Hid (∀ W,W.heap[c]? = some (.cells #[.map (some m1),.map (some m2),.map (some m3),.map (some m4),.map (some m5),.int .i64 u] 130 (0,0))→bh st m1 W→aT ls m2 W→Calls Tryz.prog 109 #[.pointer (some ⟨c,0,none⟩),.int .i64 y0,.int .i64 y1] W fun e w' => e = .returned (.int .i64 E)∧W = w'):=qH (fun W q1 q2 q3 => by rw [hE]; exact ref109 c m1 m2 m3 m4 m5 u st ls y0 y1 W q1 q2 q3)
  replace HT:=qH (show V = if E≠0 then E else thenE (allR (rfT st ls x0) (pn - (i + 1)) (i + 1)) (if (decide (x1≠0) && !(rv x1)) = true then 22 else if (!(idB x2) || decide (x2≠0) && decide (x1 = 0)) = true then 21 else if 16 < dn then 9 else thenE (allR (delT rv x3) dn 0) (if 64 < ln then 9 else R2)) by
   rw [HT.out,thenE_step _ _ _ _ hlt,hE]
   unfold rfT
   rw [hy])
  obtain ⟨d,hd⟩:=gX (wr.heap.size)
  obtain ⟨wd,hwd⟩:=gX (wr.alloc (.cells #[.int .i64 y0,.int .i64 y1] 187))
  have kd:wd.heap[d]? = some (.cells #[.int .i64 y0,.int .i64 y1] 187 (0,0)):=by rw [hwd]; exact ah _ _ hd
  have Kd:=qH kd
  have HBd:Hid (Below W0.heap.size W0 wd):=qH (by rw [hwd]; exact HB.out.trans ((ag wr _).mono HB.out.size))
  have HW:=qH hwd
  have HDd:=qH hd
  clear hds hy hD hE hd hwd kd
  go_upto_region 7 with fail
  rw [<- HW.out,<- HDd.out]
  clear HW HDd d0 d1 HB HBr
  have HB:=HBd
  have kd:=Kd.out
  have k1:=ai K1.out HB.out
  refine ac (by rfl) ?_
  simp only [List.map]
  refine sq1p c 0 ?_ (by have q0:=aa k1 0; go_simp)
  refine sq1p d 0 ?_
  refine sq1i y0 ?_ (by have q0:=aa kd 0; go_simp)
  refine sq1p d 1 ?_
  refine sq1i y1 ?_ (by have q0:=aa kd 1; go_simp)
  refine af 109 #[.pointer (some ⟨c,0,none⟩),.int .i64 y0,.int .i64 y1] (by go_simp) ?_
  refine Calls.mono (C.out _ (ai Hcb.out HB.out) (bh.over H1.out HB.out) (aT.over H2.out HB.out)) ?_
  rintro e wq1 ⟨rfl,rfl⟩
  refine ⟨_,rfl,trivial,?_⟩
  simp only [Act.put,PutA,PutZ,PutS]
  refine sq1i E ?_
  refine ad ?_
  clear HBd Kd
  by_cases hr:E = 0
  ·subst hr
   have HF:=qH (HT.out.trans (if_neg (by decide)))
   clear HT kd k1
   go_wp2_with fail
   exact ⟨⟨i + 1,by go_num,by omega,HF,HB⟩,by simp [intOf]; omega⟩
  have br:(E == 0) = false:=by rw [beq_eq_false_iff_ne]; exact hr
  have HF:=qH (show V = E from HT.out.trans (if_pos hr))
  clear HT hr kd k1
  go_wp2_with fail
  go_ret
  exact ⟨by rw [HF.out]; rfl,HB0.out.trans (HB.out.mono HB0.out.size)⟩
 have hlt':¬ (i:Int) < (pn:Int):=by omega
 have hii:i = pn:=by omega
 have HS:=qH (show V = (if (decide (x1≠0) && !(rv x1)) = true then 22 else if (!(idB x2) || decide (x2≠0) && decide (x1 = 0)) = true then 21 else if 16 < dn then 9 else thenE (allR (delT rv x3) dn 0) (if 64 < ln then 9 else R2)) by rw [HT.out,hii,thenE_end])
 clear HT hii
 obtain ⟨g4,hg4⟩:=gX (wr.heap.size)
 obtain ⟨W1,hW1⟩:=gX (wr.alloc (.cells #[.int .i64 x1,.int .i64 x2,.slice dA dn dc,.slice lA ln lc] 38))
 have hB1:Below W0.heap.size W0 W1:=by rw [hW1]; exact HB.out.trans ((ag wr _).mono HB.out.size)
 have k3:=ai K3.out HB.out
 have c1:=aa k3 1
 have c2:=aa k3 2
 have c3:=aa k3 3
 have c4:=aa k3 4
 have K4:Hid (W1.heap[g4]? = some (.cells #[.int .i64 x1,.int .i64 x2,.slice dA dn dc,.slice lA ln lc] 38 (0,0))):=qH (by rw [hW1]; exact ah _ _ hg4)
 have HW:=qH hW1
 have HG4:=qH hg4
 have HB1:=qH hB1
 clear hB1 hW1 hg4 k3
 go_upto_region 12 with fail
 rw [<- HW.out,<- HG4.out]
 clear HW HG4 c1 c2 c3 c4
 replace K1:=qH (ai K1.out HB1.out)
 replace K2:=qH (ai K2.out HB1.out)
 replace Hcb:=qH (ai Hcb.out HB1.out)
 replace H3:=qH (aT.over H3.out HB1.out)
 clear HB HBr
 replace HB0:=qH (HB0.out.trans (HB1.out.mono HB0.out.size))
 clear HB1 K3 H1 H2 HP C1
 have HB:=qH (Below.refl W1.heap.size W1)
 obtain ⟨qa,hqa⟩:=gX ((decide (x1≠0) && !(rv x1)))
 rw [<- hqa] at HS
 have HQ:=qH hqa
 clear hqa
 go_cut [40] from 41 to 53 (fun bv wr => bv = .bool qa∧Hid (Below W1.heap.size W1 wr))
 case first =>
  by_cases h0:x1 = 0
  ·have f1:(x1 == 0) = true:=by simp [h0]
   have f2:(x1 != 0) = false:=by simp [h0]
   have dF:=qH (show qa = false by rw [HQ.out]; simp [h0])
   clear h0
   have k4:=ai K4.out HB.out
   replace k4:W1.drew.heap[g4]? = some (.cells #[.int .i64 x1,.int .i64 x2,.slice dA dn dc,.slice lA ln lc] 38 (0,0)):=k4
   replace HB:=qH HB.out.drew
   refine aI (S:=fun w' => w'.heap[g4]? = some (.cells #[.int .i64 x1,.int .i64 x2,.slice dA dn dc,.slice lA ln lc] 38 (0,0))) [(true,0),(true,1),(true,2),(true,3),(true,4),(true,5),(true,6),(true,7),(true,8),(true,9),(false,10),(true,11),(true,12),(true,13)] (by kernel_rfl) (by kernel_rfl) k4 ?_
   simp only [aO,List.getElem?_cons_succ,List.getElem?_cons_zero]
   refine gd1p g4 0 ?_
   refine gd1i x1 ?_ (fun w' hS => by have q0:=aa hS 0; go_simp)
   refine gd1b false ?_
   refine gd1b false ?_
   refine aA rfl ?_
   simp only [Act.put,PutA,PutZ,PutS]
   refine aA rfl ?_
   simp only [Act.put,PutA,PutZ,PutS]
   refine aA rfl ?_
   simp only [Act.put,PutA,PutZ,PutS]
   refine aA rfl ?_
   simp only [Act.put,PutA,PutZ,PutS]
   refine aA rfl ?_
   simp only [Act.put,PutA,PutZ,PutS]
   refine aA rfl ?_
   simp only [Act.put,PutA,PutZ,PutS]
   refine aM rfl k4 ?_
   simp only [Act.put,PutA,PutZ,PutS]
   refine aA rfl ?_
   simp only [Act.put,PutA,PutZ,PutS]
   refine gd1b false ?_
   refine gd1b false ?_
   refine bF ?_
   clear k4
   go_wp2_with fail
   go_meet
   exact ⟨by rw [dF.out],HB⟩
  have f1:(x1 == 0) = false:=by simp [h0]
  have f2:(x1 != 0) = true:=by simp [h0]
  have dF:=qH (show qa = !(rv x1) by rw [HQ.out]; simp [h0])
  clear h0
  have k1:=ai K1.out HB.out
  have k4:=ai K4.out HB.out
  have hcb:=ai Hcb.out HB.out
  have h3:=aT.over H3.out HB.out
  replace k1:W1.drew.heap[g1]? = some (.cells #[.pointer (some ⟨c,0,none⟩)] 120 (0,0)):=k1
  replace k4:W1.drew.heap[g4]? = some (.cells #[.int .i64 x1,.int .i64 x2,.slice dA dn dc,.slice lA ln lc] 38 (0,0)):=k4
  replace hcb:W1.drew.heap[c]? = some (.cells #[.map (some m1),.map (some m2),.map (some m3),.map (some m4),.map (some m5),.int .i64 u] 130 (0,0)):=hcb
  replace h3:aT rv m3 W1.drew:=h3
  replace HB:=qH HB.out.drew
  refine aI (S:=fun w' => w'.heap[g1]? = some (.cells #[.pointer (some ⟨c,0,none⟩)] 120 (0,0))∧w'.heap[g4]? = some (.cells #[.int .i64 x1,.int .i64 x2,.slice dA dn dc,.slice lA ln lc] 38 (0,0))∧w'.heap[c]? = some (.cells #[.map (some m1),.map (some m2),.map (some m3),.map (some m4),.map (some m5),.int .i64 u] 130 (0,0))∧aT rv m3 w') [(true,0),(true,1),(true,2),(true,3),(true,4),(true,5),(true,6),(true,7),(true,8),(true,9),(false,10),(true,11),(true,12),(true,13)] (by kernel_rfl) (by kernel_rfl) ⟨k1,k4,hcb,h3⟩ ?_
  simp only [aO,List.getElem?_cons_succ,List.getElem?_cons_zero]
  refine gd1p g4 0 ?_
  refine gd1i x1 ?_ (fun w' hS => by have q0:=aa hS.2.1 0; go_simp)
  refine gd1b true ?_
  refine gd1b true ?_
  refine gd1p c 0 ?_ (fun w' hS => by have q0:=aa hS.1 0; go_simp)
  refine gd1p c 0 ?_
  refine gd1p c 2 ?_
  refine gd1 (.map (some m3)) ?_ (fun w' hS => by have q0:=aa hS.2.2.1 2; go_simp)
  refine gd1p g4 0 ?_
  refine gd1i x1 ?_ (fun w' hS => by have q0:=aa hS.2.1 0; go_simp)
  refine gd2 (.bool (rv x1)) ?_ (by have q0:=aT.look h3 x1; go_simp) (hS:=⟨k1,k4,hcb,h3⟩)
  refine gd1 (.bool (!(rv x1))) ?_
  refine gd1 (.bool (!(rv x1))) ?_
  refine gd1 (.bool (!(rv x1))) ?_
  refine bF ?_
  clear k1 k4 hcb h3
  go_wp2_with fail
  go_meet
  exact ⟨by rw [dF.out],HB⟩
 clear HB
 obtain ⟨rfl,HB⟩:=hcut
 clear HQ
 cases qa
 case true =>
  have HF:=qH (show V = 22 from HS.out.trans (if_pos rfl))
  clear HS
  go_wp2_with fail
  go_ret
  exact ⟨by rw [HF.out]; rfl,HB0.out.trans (HB.out.mono HB0.out.size)⟩
 replace HS:=qH (show V = _ from HS.out.trans (if_neg (by decide)))
 obtain ⟨qb,hqb⟩:=gX ((!(idB x2) || decide (x2≠0) && decide (x1 = 0)))
 rw [<- hqb] at HS
 have HQ:=qH hqb
 clear hqb
 go_upto_region 14 with fail
 go_cut [54] from 55 to 68 (fun bv wr => bv = .bool qb∧Hid (Below W1.heap.size W1 wr))
 case first =>
  obtain ⟨ib,hib⟩:=gX (idB x2)
  have C3:Hid (∀ W,Calls Tryz.prog 107 #[.int .i64 x2,.int .i64 0,.int .i64 1073741824] W fun e w' => e = .returned (.bool ib)∧W = w'):=qH (fun W => by rw [hib]; exact in107 x2 0 1073741824 W)
  rw [<- hib] at HQ
  clear hib
  cases ib
  ·have dF:=qH (show qb = true by rw [HQ.out]; rfl)
   have k4:=ai K4.out HB.out
   refine aG ?_
   simp only [List.map]
   refine gd2p g4 1 ?_
   refine gd2i x2 ?_ (by have q0:=aa k4 1; go_simp)
   refine ax rfl ?_
   refine af 107 #[.int .i64 x2,.int .i64 0,.int .i64 1073741824] (by go_simp) ?_
   refine Calls.mono (C3.out _) ?_
   rintro e wr1 ⟨rfl,rfl⟩
   refine ⟨_,rfl,trivial,?_⟩
   refine ad ?_
   simp only [Act.put,PutA,PutZ,PutS]
   refine gd2b true ?_
   refine gd2b true ?_
   refine aM rfl trivial ?_
   simp only [Act.put,PutA,PutZ,PutS]
   refine aM rfl trivial ?_
   simp only [Act.put,PutA,PutZ,PutS]
   refine aM rfl trivial ?_
   simp only [Act.put,PutA,PutZ,PutS]
   refine aM rfl trivial ?_
   simp only [Act.put,PutA,PutZ,PutS]
   refine aM rfl trivial ?_
   simp only [Act.put,PutA,PutZ,PutS]
   refine aM rfl trivial ?_
   simp only [Act.put,PutA,PutZ,PutS]
   refine aM rfl trivial ?_
   simp only [Act.put,PutA,PutZ,PutS]
   refine aM rfl trivial ?_
   simp only [Act.put,PutA,PutZ,PutS]
   refine gd2b true ?_
   refine ax rfl ?_
   refine a7 (.bool true) (by go_simp) trivial ?_
   refine ad ?_
   simp only [Act.put,PutA,PutZ,PutS]
   refine NoPanic.normal (NoPanic.normal ?_)
   clear k4
   go_wp2_with fail
   go_meet
   exact ⟨by rw [dF.out],HB⟩
  by_cases h0:x2 = 0
  ·have f1:(x2 == 0) = true:=by simp [h0]
   have f2:(x2 != 0) = false:=by simp [h0]
   have dF:=qH (show qb = false by rw [HQ.out]; simp [h0])
   clear h0
   have k4:=ai K4.out HB.out
   refine aG ?_
   simp only [List.map]
   refine gd2p g4 1 ?_
   refine gd2i x2 ?_ (by have q0:=aa k4 1; go_simp)
   refine ax rfl ?_
   refine af 107 #[.int .i64 x2,.int .i64 0,.int .i64 1073741824] (by go_simp) ?_
   refine Calls.mono (C3.out _) ?_
   rintro e wr1 ⟨rfl,rfl⟩
   refine ⟨_,rfl,trivial,?_⟩
   refine ad ?_
   simp only [Act.put,PutA,PutZ,PutS]
   refine gd2b false ?_
   refine gd2b false ?_
   refine gd2p g4 1 ?_
   refine gd2i x2 ?_ (by have q0:=aa k4 1; go_simp)
   refine gd2b false ?_
   refine gd2b false ?_
   refine aM rfl trivial ?_
   simp only [Act.put,PutA,PutZ,PutS]
   refine aM rfl trivial ?_
   simp only [Act.put,PutA,PutZ,PutS]
   refine aM rfl trivial ?_
   simp only [Act.put,PutA,PutZ,PutS]
   refine gd2b false ?_
   refine gd2b false ?_
   refine ax rfl ?_
   refine a7 (.bool false) (by go_simp) trivial ?_
   refine ad ?_
   simp only [Act.put,PutA,PutZ,PutS]
   refine NoPanic.normal (NoPanic.normal ?_)
   clear k4
   go_wp2_with fail
   go_meet
   exact ⟨by rw [dF.out],HB⟩
  have f1:(x2 == 0) = false:=by simp [h0]
  have f2:(x2 != 0) = true:=by simp [h0]
  obtain ⟨q0,hq0⟩:=gX (decide (x1 = 0))
  have fq:(x1 == 0) = q0:=by rw [hq0]; by_cases h:x1 = 0 <;> simp [h]
  have dF:=qH (show qb = q0 by rw [HQ.out,hq0]; simp [h0])
  clear h0 hq0
  have k4:=ai K4.out HB.out
  refine aG ?_
  simp only [List.map]
  refine gd2p g4 1 ?_
  refine gd2i x2 ?_ (by have q0:=aa k4 1; go_simp)
  refine ax rfl ?_
  refine af 107 #[.int .i64 x2,.int .i64 0,.int .i64 1073741824] (by go_simp) ?_
  refine Calls.mono (C3.out _) ?_
  rintro e wr1 ⟨rfl,rfl⟩
  refine ⟨_,rfl,trivial,?_⟩
  refine ad ?_
  simp only [Act.put,PutA,PutZ,PutS]
  refine gd2b false ?_
  refine gd2b false ?_
  refine gd2p g4 1 ?_
  refine gd2i x2 ?_ (by have q0:=aa k4 1; go_simp)
  refine gd2b true ?_
  refine gd2b true ?_
  refine gd2p g4 0 ?_
  refine gd2i x1 ?_ (by have q0:=aa k4 0; go_simp)
  refine gd2b q0 ?_
  refine gd2b q0 ?_
  refine gd2b q0 ?_
  refine ax rfl ?_
  refine a7 (.bool q0) (by go_simp) trivial ?_
  refine ad ?_
  simp only [Act.put,PutA,PutZ,PutS]
  refine NoPanic.normal (NoPanic.normal ?_)
  clear k4
  go_wp2_with fail
  go_meet
  exact ⟨by rw [dF.out],HB⟩
 clear HB
 obtain ⟨rfl,HB⟩:=hcut
 clear HQ
 cases qb
 case true =>
  have HF:=qH (show V = 21 from HS.out.trans (if_pos rfl))
  clear HS
  go_wp2_with fail
  go_ret
  exact ⟨by rw [HF.out]; rfl,HB0.out.trans (HB.out.mono HB0.out.size)⟩
 replace HS:=qH (show V = _ from HS.out.trans (if_neg (by decide)))
 have k4:=ai K4.out HB.out
 have c2:=aa k4 2
 clear k4
 by_cases hl:16 < dn
 ·have f1:decide ((16:Int) < (dn:Int)) = true:=by simp; omega
  have f2:decide (16 < dn) = true:=by simp; omega
  have HF:=qH (show V = 9 from HS.out.trans (if_pos hl))
  clear HS hl
  go_wp2_with fail
  go_ret
  exact ⟨by rw [HF.out]; rfl,HB0.out.trans (HB.out.mono HB0.out.size)⟩
 have f1:decide ((16:Int) < (dn:Int)) = false:=by simp; omega
 have f2:decide (16 < dn) = false:=by simp; omega
 replace HS:=qH (show V = _ from HS.out.trans (if_neg hl))
 go_wp2_with fail
 clear c2 f1 f2
 go_loopw [77] (fun iv wr => ∃ i:Nat,iv = .int .i64 (i:Int)∧i≤dn∧Hid (V = thenE (allR (delT rv x3) (dn - i) i) (if 64 < ln then 9 else R2))∧Hid (Below W1.heap.size W1 wr)) (fun iv _ => dn - (intOf iv).toNat)
 case atStart => exact ⟨0,rfl,Nat.zero_le _,HS,HB⟩
 obtain ⟨i,rfl,hin,HT,HBr⟩:=hrel
 clear HB HS
 have HB:=HBr
 clear HBr
 by_cases hlt:i < dn
 ·have hlt':(i:Int) < (dn:Int):=by omega
  obtain ⟨y,hy⟩:∃ y,x3[i]? = some y:=⟨_,List.getElem?_eq_getElem (by rw [<- HDN.out]; exact hlt)⟩
  obtain ⟨b3,o3,us,hA3,_,hbw3,_,hRy,hds⟩:=HD.out.at i y hy
  obtain ⟨y0,y1⟩:=y
  obtain ⟨rfl,_⟩:=hRy
  obtain ⟨lb,hlb⟩:=gX (leO y0 (prevD x3 i))
  obtain ⟨ib,hib⟩:=gX (idB y1)
  obtain ⟨rb,hrb⟩:=gX (rv y0)
  have C4:Hid (∀ W,Calls Tryz.prog 107 #[.int .i64 y1,.int .i64 0,.int .i64 1073741824] W fun e w' => e = .returned (.bool ib)∧W = w'):=qH (fun W => by rw [hib]; exact in107 y1 0 1073741824 W)
  replace HT:=qH (show V = if (if rb = false then 22 else if lb = true then 6 else if ib = false then 21 else 0)≠0 then (if rb = false then 22 else if lb = true then 6 else if ib = false then 21 else 0) else thenE (allR (delT rv x3) (dn - (i + 1)) (i + 1)) (if 64 < ln then 9 else R2) by
   have hdl:delT rv x3 i = (if rb = false then 22 else if lb = true then 6 else if ib = false then 21 else 0):=by
    unfold delT
    rw [hy,hlb,hib,hrb]
   rw [HT.out,thenE_step _ _ _ _ hlt,hdl]
   cases rb <;> cases lb <;> cases ib <;> rfl)
  have HLB:=qH hlb
  have HRB:=qH hrb
  obtain ⟨d,hd⟩:=gX (wr.heap.size)
  obtain ⟨wd,hwd⟩:=gX (wr.alloc (.cells #[.int .i64 y0,.int .i64 y1] 190))
  have kd:wd.heap[d]? = some (.cells #[.int .i64 y0,.int .i64 y1] 190 (0,0)):=by rw [hwd]; exact ah _ _ hd
  have Kd:=qH kd
  have HBd:Hid (Below W1.heap.size W1 wd):=qH (by rw [hwd]; exact HB.out.trans ((ag wr _).mono HB.out.size))
  have HW:=qH hwd
  have HDd:=qH hd
  have hD:=EltS.below (w:=w) hds hbw3 (HB0.out.trans (HB.out.mono HB0.out.size))
  have d0:=hD 0 _ rfl
  have d1:=hD 1 _ rfl
  simp only [Nat.add_zero] at d0
  clear hds hy hD hlb hib hrb hd hwd kd
  subst hA3
  go_upto_region 21 with fail
  rw [<- HW.out,<- HDd.out]
  clear HW HDd d0 d1 HB
  have HB:=HBd
  have kd:=Kd.out
  clear HBd Kd
  have k1:=ai K1.out HB.out
  have hcb:=ai Hcb.out HB.out
  have h3:=aT.over H3.out HB.out
  replace kd:wd.drew.heap[d]? = some (.cells #[.int .i64 y0,.int .i64 y1] 190 (0,0)):=kd
  replace k1:wd.drew.heap[g1]? = some (.cells #[.pointer (some ⟨c,0,none⟩)] 120 (0,0)):=k1
  replace hcb:wd.drew.heap[c]? = some (.cells #[.map (some m1),.map (some m2),.map (some m3),.map (some m4),.map (some m5),.int .i64 u] 130 (0,0)):=hcb
  replace h3:aT rv m3 wd.drew:=h3
  replace HB:=qH HB.out.drew
  refine ao (S:=fun w' => w'.heap[d]? = some (.cells #[.int .i64 y0,.int .i64 y1] 190 (0,0))∧w'.heap[g1]? = some (.cells #[.pointer (some ⟨c,0,none⟩)] 120 (0,0))∧w'.heap[c]? = some (.cells #[.map (some m1),.map (some m2),.map (some m3),.map (some m4),.map (some m5),.int .i64 u] 130 (0,0))∧aT rv m3 w') [(true,0),(true,1),(true,2),(true,3),(true,4),(true,5),(false,6),(true,7),(true,8)] (by kernel_rfl) (by kernel_rfl) ⟨kd,k1,hcb,h3⟩ ?_
  simp only [aO,List.getElem?_cons_succ,List.getElem?_cons_zero]
  refine sq2p c 0 ?_ (fun w' hS => by have q0:=aa hS.2.1 0; go_simp)
  refine sq2p c 0 ?_
  refine sq2p c 2 ?_
  refine sq2 (.map (some m3)) ?_ (fun w' hS => by have q0:=aa hS.2.2.1 2; go_simp)
  refine sq2p d 0 ?_
  refine sq2i y0 ?_ (fun w' hS => by have q0:=aa hS.1 0; go_simp)
  refine a7 (.bool (rv y0)) (by have q0:=aT.look h3 y0; go_simp) ⟨kd,k1,hcb,h3⟩ ?_
  simp only [Act.put,PutA,PutZ,PutS]
  refine sq2 (.bool (!(rv y0))) ?_
  refine sq2 (.bool (!(rv y0))) ?_
  refine ad ?_
  rw [<- HRB.out]
  clear k1 hcb h3 HRB
  cases rb
  case false =>
   have HF:=qH (show V = 22 from HT.out)
   clear HT kd
   go_wp2_with fail
   go_ret
   exact ⟨by rw [HF.out]; rfl,HB0.out.trans (HB.out.mono HB0.out.size)⟩
  go_upto_region 23 with fail
  go_cut [91] from 92 to 105 (fun bv wr => bv = .bool lb∧Hid (Below W1.heap.size W1 wr)∧Hid (wr.heap[d]? = some (.cells #[.int .i64 y0,.int .i64 y1] 190 (0,0))))
  case first =>
   by_cases h0:i = 0
   ·have dz:decide (0 < (i:Int)) = false:=by simp; omega
    have dz3:decide (0 < i) = false:=by simp; omega
    have dF:=qH (show lb = false by rw [HLB.out,h0]; rfl)
    clear h0
    replace kd:wd.drew.drew.heap[d]? = some (.cells #[.int .i64 y0,.int .i64 y1] 190 (0,0)):=kd
    replace HB:=qH HB.out.drew
    refine aI (S:=fun w' => w'.heap[d]? = some (.cells #[.int .i64 y0,.int .i64 y1] 190 (0,0))) [(true,0),(true,1),(true,2),(true,3),(true,4),(true,5),(true,6),(true,7),(true,8),(true,9),(true,10),(true,11),(true,12),(true,13),(true,14)] (by kernel_rfl) (by kernel_rfl) kd ?_
    simp only [aO,List.getElem?_cons_succ,List.getElem?_cons_zero]
    refine gd1i (i:Int) ?_
    refine gd1b false ?_
    refine gd1b false ?_
    refine aA rfl ?_
    simp only [Act.put,PutA,PutZ,PutS]
    refine aA rfl ?_
    simp only [Act.put,PutA,PutZ,PutS]
    refine aA rfl ?_
    simp only [Act.put,PutA,PutZ,PutS]
    refine aA rfl ?_
    simp only [Act.put,PutA,PutZ,PutS]
    refine aA rfl ?_
    simp only [Act.put,PutA,PutZ,PutS]
    refine aA rfl ?_
    simp only [Act.put,PutA,PutZ,PutS]
    refine aA rfl ?_
    simp only [Act.put,PutA,PutZ,PutS]
    refine aA rfl ?_
    simp only [Act.put,PutA,PutZ,PutS]
    refine aA rfl ?_
    simp only [Act.put,PutA,PutZ,PutS]
    refine aA rfl ?_
    simp only [Act.put,PutA,PutZ,PutS]
    refine gd1b false ?_
    refine gd1b false ?_
    refine bF ?_
    go_wp2_with fail
    go_meet
    exact ⟨by rw [dF.out],HB,qH (by assumption)⟩
   have hi2:decide ((0:Int) < (i:Int)) = true:=by simp; omega
   have hi3:decide (0 < i) = true:=by simp; omega
   obtain ⟨y,hy⟩:∃ y,x3[i - 1]? = some y:=⟨_,List.getElem?_eq_getElem (by rw [<- HDN.out]; omega)⟩
   obtain ⟨b4,o4,us,hA4,_,hbw4,_,hRy,hds⟩:=HD.out.at (i - 1) y hy
   injection hA4 with hA4
   injection hA4 with q1 q2
   subst q1 q2
   have hE:=EltS.below (w:=w) hds hbw4 (HB0.out.trans (HB.out.mono HB0.out.size))
   obtain ⟨z0,z1⟩:=y
   obtain ⟨rfl,_⟩:=hRy
   obtain ⟨m,hm⟩:=gX (i - 1)
   obtain ⟨ql,hql⟩:=gX (decide (y0≤z0))
   have dF:=qH (show lb = ql by rw [HLB.out,hql]; unfold prevD; rw [if_neg h0,hy]; rfl)
   have fq:=hql.symm
   rw [<- hm] at hE
   have em:IntKind.i64.wrap ((i:Int) - 1) = (m:Int):=by rw [IntWalk.i64_in _ (by omega)]; omega
   have em2:wrap64 ((i:Int) - 1) = (m:Int):=by rw [IntWalk.wrap64_in _ (by omega)]; omega
   have em3:(i:Int) - 1 = (m:Int):=by omega
   have em4:IntKind.i64.wrap (m:Int) = (m:Int):=IntWalk.i64_in _ (by omega)
   have hmn:(m:Int) < (dn:Int):=by omega
   clear h0 hy hds hm hql
   have k4:=ai K4.out HB.out
   replace kd:wd.drew.drew.heap[d]? = some (.cells #[.int .i64 y0,.int .i64 y1] 190 (0,0)):=kd
   replace k4:wd.drew.drew.heap[g4]? = some (.cells #[.int .i64 x1,.int .i64 x2,.slice (some ⟨b3,o3,none⟩) dn dc,.slice lA ln lc] 38 (0,0)):=k4
   replace hE:EltS b3 (o3 + m * 2) [.int .i64 z0,.int .i64 z1] wd.drew.drew:=hE
   replace HB:=qH HB.out.drew
   refine aI (S:=fun w' => w'.heap[d]? = some (.cells #[.int .i64 y0,.int .i64 y1] 190 (0,0))∧w'.heap[g4]? = some (.cells #[.int .i64 x1,.int .i64 x2,.slice (some ⟨b3,o3,none⟩) dn dc,.slice lA ln lc] 38 (0,0))∧EltS b3 (o3 + m * 2) [.int .i64 z0,.int .i64 z1] w') [(true,0),(true,1),(true,2),(true,3),(true,4),(true,5),(true,6),(true,7),(true,8),(true,9),(true,10),(true,11),(true,12),(true,13),(true,14)] (by kernel_rfl) (by kernel_rfl) ⟨kd,k4,hE⟩ ?_
   simp only [aO,List.getElem?_cons_succ,List.getElem?_cons_zero]
   refine gd1i (i:Int) ?_
   refine gd1b true ?_
   refine gd1b true ?_
   refine gd1p d 0 ?_
   refine gd1i y0 ?_ (fun w' hS => by have q0:=aa hS.1 0; go_simp)
   refine gd1p g4 2 ?_
   refine gd1 (.slice (some ⟨b3,o3,none⟩) dn dc) ?_ (fun w' hS => by have q0:=aa hS.2.1 2; go_simp)
   refine gd1i (i:Int) ?_
   refine gd1i (m:Int) ?_
   refine gd1p b3 (o3 + m * 2) ?_
   refine gd1p b3 (o3 + m * 2) ?_
   refine gd1i z0 ?_ (fun w' hS => by have q0:=hS.2.2 0 _ rfl; simp only [Nat.add_zero] at q0; go_simp)
   refine gd1b ql ?_
   refine gd1b ql ?_
   refine gd1b ql ?_
   refine bF ?_
   clear hE k4
   go_wp2_with fail
   go_meet
   exact ⟨by rw [dF.out],HB,qH (by assumption)⟩
  clear HB kd
  obtain ⟨rfl,HB,Kd⟩:=hcut
  have kd:=Kd.out
  clear Kd HLB
  cases lb
  case true =>
   have HF:=qH (show V = 6 from HT.out)
   clear HT kd
   go_wp2_with fail
   go_ret
   exact ⟨by rw [HF.out]; rfl,HB0.out.trans (HB.out.mono HB0.out.size)⟩
  go_upto_region 25 with fail
  refine ac (by rfl) ?_
  simp only [List.map]
  refine sq1p d 1 ?_
  refine sq1i y1 ?_ (by have q0:=aa kd 1; go_simp)
  refine af 107 #[.int .i64 y1,.int .i64 0,.int .i64 1073741824] (by go_simp) ?_
  refine Calls.mono (C4.out _) ?_
  rintro e ws1 ⟨rfl,rfl⟩
  refine ⟨_,rfl,trivial,?_⟩
  simp only [Act.put,PutA,PutZ,PutS]
  refine sq1 (.bool (!ib)) ?_
  refine sq1 (.bool (!ib)) ?_
  refine ad ?_
  clear kd
  cases ib
  case false =>
   have HF:=qH (show V = 21 from HT.out)
   clear HT
   go_wp2_with fail
   go_ret
   exact ⟨by rw [HF.out]; rfl,HB0.out.trans (HB.out.mono HB0.out.size)⟩
  have HF:=qH (show V = thenE (allR (delT rv x3) (dn - (i + 1)) (i + 1)) (if 64 < ln then 9 else R2) from HT.out)
  clear HT
  go_wp2_with fail
  exact ⟨⟨i + 1,by go_num,by omega,HF,HB⟩,by simp [intOf]; omega⟩
 have hlt':¬ (i:Int) < (dn:Int):=by omega
 have hii:i = dn:=by omega
 have HS:=qH (show V = (if 64 < ln then 9 else R2) by rw [HT.out,hii,thenE_end])
 clear HT hii
 have k4:=ai K4.out HB.out
 have c3:=aa k4 3
 clear k4
 by_cases hl:64 < ln
 ·have f1:decide ((64:Int) < (ln:Int)) = true:=by simp; omega
  have f2:decide (64 < ln) = true:=by simp; omega
  have HF:=qH (show V = 9 from HS.out.trans (if_pos hl))
  clear HS hl
  go_wp2_with fail
  go_ret
  exact ⟨by rw [HF.out]; rfl,HB0.out.trans (HB.out.mono HB0.out.size)⟩
 have f1:decide ((64:Int) < (ln:Int)) = false:=by simp; omega
 have f2:decide (64 < ln) = false:=by simp; omega
 have HF:=qH (show V = R2 from HS.out.trans (if_neg hl))
 have C:=qH (C2.out _ g1 g2 g4 (HB0.out.trans (HB.out.mono HB0.out.size)) (ai K1.out HB.out) (ai K2.out HB.out) (ai K4.out HB.out))
 clear HS hl
 go_wp2_with fail
 refine C.out.mono ?_
 rintro e w9 ⟨rfl,hb9⟩
 replace HB:=qH (HB.out.trans (hb9.mono HB.out.size))
 clear hb9 C c3
 go_wp2_with fail
 go_ret
 exact ⟨by rw [HF.out]; rfl,HB0.out.trans (HB.out.mono HB0.out.size)⟩
end Go.Proofs.YtmhhcfceikcfbaaGreat
