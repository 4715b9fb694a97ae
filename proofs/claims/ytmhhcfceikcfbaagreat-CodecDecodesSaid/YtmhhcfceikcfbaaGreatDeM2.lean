/- Walks: a layer, the head of an element checked. -/
import Derived.BigQuiet
import Derived.Test.YtmhhcfceikcfbaaGreatDeM1
namespace Go.Proofs.YtmhhcfceikcfbaaGreat
open Go.RowKit
set_option maxRecDepth 100000
set_option maxHeartbeats 4000000
def prevY (l:List Lay) (i:Nat):Option Int:=if i = 0 then none else (l[i - 1]?).map fun y => y.2.1
def layT (el:Int) (st:Int→Option Int) (ls rv:Int→Bool) (l:List Lay) (i:Nat):Int:=match l[i]? with
 | some x => if rv x.1 = false then 22 else if fitsB el x.2.1 = false then 4 else if prevLt (prevY l i) x.2.1 = true then 6 else if x.2.2.2 = false then orE (decide (x.2.2.1≠0)) 21 else aS [chkV x.2.1 x.2.2.1,refE st ls x.2.1 x.2.2.1]
 | none => 0
theorem layer111 (G:Nat→Prop) (w:World) (A:Option Addr) (cp:Nat) (l:List Lay) (el:Int) (i:Nat) (hi:i < l.length) (hv:Slv layP 4 w G (.slice A l.length cp) l) (hG:∀ b,G b→b < w.heap.size) (c m1 m2 m3 m4 m5:Nat) (u:Int) (st:Int→Option Int) (ls rv:Int→Bool) (hcb:w.heap[c]? = some (.cells #[.map (some m1),.map (some m2),.map (some m3),.map (some m4),.map (some m5),.int .i64 u] 130 (0,0))) (h1:bh st m1 w) (h2:aT ls m2 w) (h3:aT rv m3 w):Calls Tryz.prog 111 #[.pointer (some ⟨c,0,none⟩),.int .i64 el,.slice A l.length cp,.int .i64 (i:Int)] w (RetI (layT el st ls rv l i) w):=by
 obtain ⟨V,hV⟩:=gX (layT el st ls rv l i)
 rw [<- hV]
 obtain ⟨x,hx⟩:∃ x,l[i]? = some x:=⟨_,List.getElem?_eq_getElem hi⟩
 unfold layT at hV
 rw [hx] at hV
 simp only at hV
 obtain ⟨b1,o1,vs,rfl,hgb,hbw,_,hRx,hcs⟩:=hv.at i x hx
 have hE:EltS b1 (o1 + i * 4) vs w:=hcs
 obtain ⟨hlen,hcm⟩:l.length≤cp∧cp≤maxLen:=by obtain ⟨A',c',hv',h1,h2,_⟩:=hv; cases hv'; exact ⟨h1,h2⟩
 unfold maxLen at hcm
 obtain ⟨x0,x1,x2,x3⟩:=x
 obtain ⟨rfl,_⟩:=hRx
 simp only at hV
 have HL:=qH hv
 obtain ⟨n,hn⟩:=gX (l.length)
 have hin:(i:Int) < (n:Int):=by omega
 have hin2:i < n:=by omega
 have hncp:n≤cp:=by omega
 have HN:=qH hn
 obtain ⟨fb,hfb⟩:=gX (fitsB el x1)
 have C1:Hid (∀ W,Calls Tryz.prog 187 #[.int .i64 el,.int .i64 x1] W (RetB fb W)):=qH (fun W => by rw [hfb]; exact fits187 el x1 W)
 obtain ⟨cE,hcE⟩:=gX (chkV x1 x2)
 have C2:Hid (∀ W,Calls Tryz.prog 188 #[.int .i64 x1,.int .i64 x2] W (RetI cE W)):=qH (fun W => by rw [hcE]; exact checkValue188 x1 x2 W)
 obtain ⟨rE,hrE⟩:=gX (refE st ls x1 x2)
 have C3:Hid (∀ W,W.heap[c]? = some (.cells #[.map (some m1),.map (some m2),.map (some m3),.map (some m4),.map (some m5),.int .i64 u] 130 (0,0))→bh st m1 W→aT ls m2 W→Calls Tryz.prog 109 #[.pointer (some ⟨c,0,none⟩),.int .i64 x1,.int .i64 x2] W fun e w' => e = .returned (.int .i64 rE)∧W = w'):=qH (fun W q1 q2 q3 => by rw [hrE]; exact ref109 c m1 m2 m3 m4 m5 u st ls x1 x2 W q1 q2 q3)
 obtain ⟨lb,hlb⟩:=gX (prevLt (prevY l i) x1)
 rw [<- hfb,<- hcE,<- hrE,<- hlb] at hV
 have HLB:=qH hlb
 have e0:=hE 0 _ rfl
 have e1:=hE 1 _ rfl
 have e2:=hE 2 _ rfl
 have e3:=hE 3 _ rfl
 simp only [Nat.add_zero] at e0
 obtain ⟨d,hd⟩:=gX (w.heap.size)
 obtain ⟨W,hW⟩:=gX (w.alloc (.cells #[.int .i64 x0,.int .i64 x1,.int .i64 x2,.bool x3] 201))
 have hbk:W.heap[d]? = some (.cells #[.int .i64 x0,.int .i64 x1,.int .i64 x2,.bool x3] 201 (0,0)):=by rw [hW]; exact ah _ _ hd
 have hBW:Below w.heap.size w W:=by rw [hW]; exact ag w _
 have HW:=qH hW
 have HD:=qH hd
 have Hbk:=qH hbk
 have Hcb:=qH hcb
 have H1:=qH h1
 have H2:=qH h2
 have H3:=qH h3
 have HB:=qH hBW
 have HS:=qH hV
 have HG:=qH hG
 clear hV hfb hcE hrE hlb hx hv hcs hn hG hW hd hbk hBW hE hcb h1 h2 h3 hi
 rw [<- HN.out]
 go_enter Tryz.func111,Tryz.ntmps111
 go_upto_region 2 with fail
 rw [<- HW.out,<- HD.out]
 clear HW e0 e1 e2 e3
 have hbk:=Hbk.out
 have hcb:=ai Hcb.out HB.out
 have h3:=aT.over H3.out HB.out
 replace hbk:W.drew.heap[d]? = some (.cells #[.int .i64 x0,.int .i64 x1,.int .i64 x2,.bool x3] 201 (0,0)):=hbk
 replace hcb:W.drew.heap[c]? = some (.cells #[.map (some m1),.map (some m2),.map (some m3),.map (some m4),.map (some m5),.int .i64 u] 130 (0,0)):=hcb
 replace h3:aT rv m3 W.drew:=h3
 replace HB:=qH HB.out.drew
 refine ao (S:=fun w' => w'.heap[d]? = some (.cells #[.int .i64 x0,.int .i64 x1,.int .i64 x2,.bool x3] 201 (0,0))∧w'.heap[c]? = some (.cells #[.map (some m1),.map (some m2),.map (some m3),.map (some m4),.map (some m5),.int .i64 u] 130 (0,0))∧aT rv m3 w') [(true,0),(true,1),(true,2),(true,3),(true,4),(true,5),(false,6),(true,7),(true,8)] (by kernel_rfl) (by kernel_rfl) ⟨hbk,hcb,h3⟩ ?_
 simp only [aO,List.getElem?_cons_succ,List.getElem?_cons_zero]
 refine sq2p c 0 ?_
 refine sq2p c 0 ?_
 refine sq2p c 2 ?_
 refine sq2 (.map (some m3)) ?_ (fun w' hS => by have q0:=aa hS.2.1 2; go_simp)
 refine sq2p d 0 ?_
 refine sq2i x0 ?_ (fun w' hS => by have q0:=aa hS.1 0; go_simp)
 refine a7 (.bool (rv x0)) (by have q0:=aT.look h3 x0; go_simp) ⟨hbk,hcb,h3⟩ ?_
 simp only [Act.put,PutA,PutZ,PutS]
 refine sq2 (.bool (!(rv x0))) ?_
 refine sq2 (.bool (!(rv x0))) ?_
 refine ad ?_
 obtain ⟨qr,hqr⟩:=gX (rv x0)
 rw [<- hqr] at HS ⊢
 clear hqr
 cases qr
 ·have HF:=qH (show V = 22 from HS.out.trans (if_pos rfl))
  clear HS hbk hcb h3
  go_wp2_with fail
  go_ret
  exact ⟨by rw [HF.out]; rfl,HB.out⟩
 replace HS:=qH (show V = _ from HS.out.trans (if_neg (by decide)))
 go_upto_region 4 with fail
 refine ac (by rfl) ?_
 simp only [List.map]
 refine sq1i el ?_
 refine sq1p d 1 ?_
 refine sq1i x1 ?_ (by have q0:=aa hbk 1; go_simp)
 refine af 187 #[.int .i64 el,.int .i64 x1] (by go_simp) ?_
 refine Calls.mono (C1.out _) ?_
 rintro e wq1 ⟨rfl,hbq1⟩
 replace hbk:=ai hbk hbq1
 replace hcb:=ai hcb hbq1
 replace h3:=aT.over h3 hbq1
 replace HB:=qH (HB.out.trans (hbq1.mono HB.out.size))
 clear hbq1
 refine ⟨_,rfl,trivial,?_⟩
 simp only [Act.put,PutA,PutZ,PutS]
 refine sq1 (.bool (!fb)) ?_
 refine sq1 (.bool (!fb)) ?_
 refine ad ?_
 cases fb
 ·have HF:=qH (show V = 4 from HS.out.trans (if_pos rfl))
  clear HS hbk hcb h3
  go_wp2_with fail
  go_ret
  exact ⟨by rw [HF.out]; rfl,HB.out⟩
 replace HS:=qH (show V = _ from HS.out.trans (if_neg (by decide)))
 go_upto_region 6 with fail
 go_cut [29] from 30 to 42 (fun bv wr => bv = .bool lb∧Hid (Below w.heap.size w wr)∧Hid (wr.heap[d]? = some (.cells #[.int .i64 x0,.int .i64 x1,.int .i64 x2,.bool x3] 201 (0,0))))
 case first =>
  clear hcb h3
  by_cases h0:i = 0
  ·have dz:decide (0 < (i:Int)) = false:=by simp; omega
   have dz3:decide (0 < i) = false:=by simp; omega
   have dF:=qH (show lb = false by rw [HLB.out]; unfold prevY; rw [if_pos h0]; rfl)
   clear h0
   replace hbk:wq1.drew.heap[d]? = some (.cells #[.int .i64 x0,.int .i64 x1,.int .i64 x2,.bool x3] 201 (0,0)):=hbk
   replace HB:=qH HB.out.drew
   refine aI (S:=fun w' => w'.heap[d]? = some (.cells #[.int .i64 x0,.int .i64 x1,.int .i64 x2,.bool x3] 201 (0,0))) [(true,0),(true,1),(true,2),(true,3),(true,4),(true,5),(true,6),(true,7),(true,8),(true,9),(true,10),(true,11),(true,12),(true,13)] (by kernel_rfl) (by kernel_rfl) hbk ?_
   simp only [aO,List.getElem?_cons_succ,List.getElem?_cons_zero]
   refine gd1i (i:Int) ?_
   refine gd1b false ?_
   refine gd1b false ?_
   refine aA rfl ?_
   simp only [Act.put,PutA,PutZ,PutS]
   refine aA rfl ?_
   simp only [Act.put,PutA,PutZ,PutS]
   refine aA rfl ?_
   simp only [Act.put,PutA,PutZ,PutS]
   refine aA rfl ?_
   simp only [Act.put,PutA,PutZ,PutS]
   refine aA rfl ?_
   simp only [Act.put,PutA,PutZ,PutS]
   refine aA rfl ?_
   simp only [Act.put,PutA,PutZ,PutS]
   refine aA rfl ?_
   simp only [Act.put,PutA,PutZ,PutS]
   refine aA rfl ?_
   simp only [Act.put,PutA,PutZ,PutS]
   refine aA rfl ?_
   simp only [Act.put,PutA,PutZ,PutS]
   refine gd1b false ?_
   refine gd1b false ?_
   refine bF ?_
   go_wp2_with fail
   go_meet
   exact ⟨by rw [dF.out],HB,qH hbk⟩
  have hi2:decide ((0:Int) < (i:Int)) = true:=by simp; omega
  have hi3:decide (0 < i) = true:=by simp; omega
  obtain ⟨y,hy⟩:∃ y,l[i - 1]? = some y:=⟨_,List.getElem?_eq_getElem (by rw [<- HN.out]; omega)⟩
  obtain ⟨b2,o2,us,hA,_,hbw2,_,hRy,hds⟩:=HL.out.at (i - 1) y hy
  injection hA with hA
  injection hA with hA1 hA2
  subst hA1 hA2
  have hD:=EltS.below (w:=w) hds hbw2 HB.out
  obtain ⟨y0,y1,y2,y3⟩:=y
  obtain ⟨rfl,_⟩:=hRy
  obtain ⟨m,hm⟩:=gX (i - 1)
  obtain ⟨ql,hql⟩:=gX (decide (x1 < y1))
  have dF:=qH (show lb = ql by rw [HLB.out,hql]; unfold prevY; rw [if_neg h0,hy]; rfl)
  have fq:=hql.symm
  rw [<- hm] at hD
  have em:IntKind.i64.wrap ((i:Int) - 1) = (m:Int):=by rw [IntWalk.i64_in _ (by omega)]; omega
  have em2:wrap64 ((i:Int) - 1) = (m:Int):=by rw [IntWalk.wrap64_in _ (by omega)]; omega
  have em3:(i:Int) - 1 = (m:Int):=by omega
  have em4:IntKind.i64.wrap (m:Int) = (m:Int):=IntWalk.i64_in _ (by omega)
  have hmn:(m:Int) < (n:Int):=by omega
  clear h0 hy hds hm hql
  replace hbk:wq1.drew.heap[d]? = some (.cells #[.int .i64 x0,.int .i64 x1,.int .i64 x2,.bool x3] 201 (0,0)):=hbk
  replace hD:EltS b1 (o1 + m * 4) [.int .i64 y0,.int .i64 y1,.int .i64 y2,.bool y3] wq1.drew:=hD
  replace HB:=qH HB.out.drew
  refine aI (S:=fun w' => w'.heap[d]? = some (.cells #[.int .i64 x0,.int .i64 x1,.int .i64 x2,.bool x3] 201 (0,0))∧EltS b1 (o1 + m * 4) [.int .i64 y0,.int .i64 y1,.int .i64 y2,.bool y3] w') [(true,0),(true,1),(true,2),(true,3),(true,4),(true,5),(true,6),(true,7),(true,8),(true,9),(true,10),(true,11),(true,12),(true,13)] (by kernel_rfl) (by kernel_rfl) ⟨hbk,hD⟩ ?_
  simp only [aO,List.getElem?_cons_succ,List.getElem?_cons_zero]
  refine gd1i (i:Int) ?_
  refine gd1b true ?_
  refine gd1b true ?_
  refine gd1p d 1 ?_
  refine gd1i x1 ?_ (fun w' hS => by have q0:=aa hS.1 1; go_simp)
  refine gd1 (.slice (some ⟨b1,o1,none⟩) n cp) ?_
  refine gd1i (i:Int) ?_
  refine gd1i (m:Int) ?_
  refine gd1p b1 (o1 + m * 4) ?_
  refine gd1p b1 (o1 + m * 4 + 1) ?_
  refine gd1i y1 ?_ (fun w' hS => by have q0:=hS.2 1 _ rfl; go_simp)
  refine gd1b ql ?_
  refine gd1b ql ?_
  refine gd1b ql ?_
  refine bF ?_
  go_wp2_with fail
  go_meet
  exact ⟨by rw [dF.out],HB,qH hbk⟩
 clear HB hbk hcb h3
 obtain ⟨rfl,HB,Hbk⟩:=hcut
 have hbk:=Hbk.out
 cases lb
 case true =>
  have HF:=qH (show V = 6 from HS.out.trans (if_pos rfl))
  clear HS hbk
  go_wp2_with fail
  go_ret
  exact ⟨by rw [HF.out]; rfl,HB.out⟩
 replace HS:=qH (show V = _ from HS.out.trans (if_neg (by decide)))
 go_upto_region 8 with fail
 refine ac (by rfl) ?_
 simp only [List.map]
 refine sq1p d 3 ?_
 refine sq1b x3 ?_ (by have q0:=aa hbk 3; go_simp)
 refine sq1 (.bool (!x3)) ?_
 refine sq1 (.bool (!x3)) ?_
 refine ad ?_
 cases x3
 case false =>
  obtain ⟨q,hq⟩:=gX (decide (x2≠0))
  have fq:(x2 != 0) = q:=by rw [hq]; by_cases h:x2 = 0 <;> simp [h]
  obtain ⟨E,hE⟩:=gX (orE q 21)
  have HF:=qH (show V = E by rw [HS.out,if_pos rfl,<- hq,hE])
  have C4:Hid (∀ W,Calls Tryz.prog 51 #[.bool q,.int .i64 21] W fun e w' => e = .returned (.int .i64 E)∧W = w'):=qH (fun W => by rw [hE]; exact bo q 21 W)
  clear HS hq hE
  go_upto_region 9 with fail
  refine ac (by rfl) ?_
  simp only [List.map]
  refine sq1p d 2 ?_
  refine sq1i x2 ?_ (by have q0:=aa hbk 2; go_simp)
  refine sq1b q ?_
  refine af 51 #[.bool q,.int .i64 21] (by go_simp) ?_
  refine Calls.mono (C4.out _) ?_
  rintro e ws1 ⟨rfl,rfl⟩
  refine ⟨_,rfl,trivial,?_⟩
  simp only [Act.put,PutA,PutZ,PutS]
  refine sq1i E ?_
  refine ad ?_
  clear hbk
  go_wp2_with fail
  go_ret
  exact ⟨by rw [HF.out]; rfl,HB.out⟩
 have HF:=qH (show V = aS [cE,rE] from HS.out.trans (if_neg (by decide)))
 clear HS
 have hcb:=ai Hcb.out HB.out
 have h1:=bh.over H1.out HB.out
 have h2:=aT.over H2.out HB.out
 go_upto_region 10 with fail
 replace hbk:wc.drew.heap[d]? = some (.cells #[.int .i64 x0,.int .i64 x1,.int .i64 x2,.bool true] 201 (0,0)):=hbk
 replace hcb:wc.drew.heap[c]? = some (.cells #[.map (some m1),.map (some m2),.map (some m3),.map (some m4),.map (some m5),.int .i64 u] 130 (0,0)):=hcb
 replace h1:bh st m1 wc.drew:=h1
 replace h2:aT ls m2 wc.drew:=h2
 replace HB:=qH HB.out.drew
 refine ao (S:=fun w' => w'.heap[d]? = some (.cells #[.int .i64 x0,.int .i64 x1,.int .i64 x2,.bool true] 201 (0,0))∧w'.heap[c]? = some (.cells #[.map (some m1),.map (some m2),.map (some m3),.map (some m4),.map (some m5),.int .i64 u] 130 (0,0))∧bh st m1 w'∧aT ls m2 w') [(true,0),(true,1),(true,2),(true,3),(true,5),(true,6),(true,7),(true,8),(true,9),(false,4),(false,10),(false,11),(false,12),(true,13)] (by kernel_rfl) (by kernel_rfl) ⟨hbk,hcb,h1,h2⟩ ?_
 simp only [aO,List.getElem?_cons_succ,List.getElem?_cons_zero]
 refine sq2p d 1 ?_
 refine sq2i x1 ?_ (fun w' hS => by have q0:=aa hS.1 1; go_simp)
 refine sq2p d 2 ?_
 refine sq2i x2 ?_ (fun w' hS => by have q0:=aa hS.1 2; go_simp)
 refine sq2p c 0 ?_
 refine sq2p d 1 ?_
 refine sq2i x1 ?_ (fun w' hS => by have q0:=aa hS.1 1; go_simp)
 refine sq2p d 2 ?_
 refine sq2i x2 ?_ (fun w' hS => by have q0:=aa hS.1 2; go_simp)
 refine af 188 #[.int .i64 x1,.int .i64 x2] (by go_simp) ?_
 refine Calls.mono (C2.out _) ?_
 rintro e wz1 ⟨rfl,hbz1⟩
 replace hbk:=ai hbk hbz1
 replace hcb:=ai hcb hbz1
 replace h1:=bh.over h1 hbz1
 replace h2:=aT.over h2 hbz1
 replace HB:=qH (HB.out.trans (hbz1.mono HB.out.size))
 clear hbz1
 refine ⟨_,rfl,⟨hbk,hcb,h1,h2⟩,?_⟩
 simp only [Act.put,PutA,PutZ,PutS]
 refine af 109 #[.pointer (some ⟨c,0,none⟩),.int .i64 x1,.int .i64 x2] (by go_simp) ?_
 refine Calls.mono (C3.out _ hcb h1 h2) ?_
 rintro e wz2 ⟨rfl,rfl⟩
 refine ⟨_,rfl,⟨hbk,hcb,h1,h2⟩,?_⟩
 simp only [Act.put,PutA,PutZ,PutS]
 refine au (.slice (some ⟨wz1.heap.size,0,none⟩) 2 2) (wz1.alloc (.cells #[.int .i64 cE,.int .i64 rE] 23)) (by go_simp) ?_ ?_
 ·exact ⟨ai hbk (ag wz1 _),ai hcb (ag wz1 _),bh.over h1 (ag wz1 _),aT.over h2 (ag wz1 _)⟩
 have hnz3:(wz1.alloc (.cells #[.int .i64 cE,.int .i64 rE] 23)).heap[wz1.heap.size]? = some (.cells #[.int .i64 cE,.int .i64 rE] 23 (0,0)):=heap_alloc_new _ _
 have hbz3:=ag wz1 (.cells #[.int .i64 cE,.int .i64 rE] 23)
 obtain ⟨wz3,hwz3⟩:=gX (wz1.alloc (.cells #[.int .i64 cE,.int .i64 rE] 23))
 obtain ⟨gz3,hgz3⟩:=gX (wz1.heap.size)
 rw [<- hwz3] at hnz3 hbz3 ⊢
 rw [<- hgz3] at hnz3 ⊢
 replace hbk:=ai hbk hbz3
 replace hcb:=ai hcb hbz3
 replace h1:=bh.over h1 hbz3
 replace h2:=aT.over h2 hbz3
 replace HB:=qH (HB.out.trans (hbz3.mono HB.out.size))
 clear hwz3 hgz3 hbz3
 simp only [Act.put,PutA,PutZ,PutS]
 refine af 46 #[.slice (some ⟨gz3,0,none⟩) 2 2] (by go_simp) ?_
 refine Calls.mono (bu [cE,rE] hnz3 rfl (by simp)) ?_
 rintro e wz4 ⟨rfl,rfl⟩
 refine ⟨_,rfl,⟨hbk,hcb,h1,h2⟩,?_⟩
 simp only [Act.put,PutA,PutZ,PutS]
 refine sq2i (aS [cE,rE]) ?_
 refine ad ?_
 clear hbk hcb h1 h2
 go_wp2_with fail
 go_ret
 exact ⟨by rw [HF.out]; rfl,HB.out⟩
end Go.Proofs.YtmhhcfceikcfbaaGreat
