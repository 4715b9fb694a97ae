/- Walks: the table of variables checked. -/
import Derived.Laws.Strings
import Derived.Test.YtmhhcfceikcfbaaGreatDeG3
namespace Go.Proofs.YtmhhcfceikcfbaaGreat
open Go.RowKit
set_option maxRecDepth 100000
set_option maxHeartbeats 4000000
def vEq (l:List Vr) (i:Nat) (x:Vr):Bool:=match l[i - 1]? with
 | some y => decide (0 < i) && (x.1.toList == y.1.toList)
 | none => false
def vLt (l:List Vr) (i:Nat) (x:Vr):Bool:=match l[i - 1]? with
 | some y => decide (0 < i) && Op.bytesLess x.1.toList y.1.toList
 | none => false
def varT (l:List Vr) (i:Nat):Int:=match l[i]? with
 | some x => aS [orE (!nameB x.1) 13,orE (vEq l i x) 7,orE (vLt l i x) 6,txtE x.2]
 | none => 0
def varsT (l:List Vr):Int:=aS [orE (decide (128 < l.length)) 9,allR (varT l) (min l.length 128) 0]
theorem clo184 (G:Nat→Prop) (w:World) (A:Option Addr) (c:Nat) (l:List Vr) (i:Nat) (g:Nat) (hi:i < l.length) (hv:Slv vrP 2 w G (.slice A l.length c) l) (_hG:∀ b,G b→b < w.heap.size) (hz:(ak vrE l).length≤1048576000) (hb:w.heap[g]? = some (.cells #[.slice A l.length c] 45 (0,0))):Calls Tryz.prog 184 #[.int .i64 (i:Int),.pointer (some ⟨g,0,none⟩)] w (RetI (varT l i) w):=by
 obtain ⟨V,hV⟩:=gX (varT l i)
 rw [<- hV]
 obtain ⟨x,hx⟩:∃ x,l[i]? = some x:=⟨_,List.getElem?_eq_getElem hi⟩
 unfold varT at hV
 rw [hx] at hV
 simp only at hV
 have hs2:x.2.size≤1048576000:=by
  have h1:=mem_le (e:=vrE) (List.mem_of_getElem? hx)
  have h2:(strE x.2).length≤(vrE x).length:=by simp only [vrE,seqE,List.length_append]; omega
  have:=strE_le x.2
  omega
 obtain ⟨b1,o1,vs,rfl,hgb,hbw,_,hRx,hcs⟩:=hv.at i x hx
 have hE:EltS b1 (o1 + i * 2) vs w:=hcs
 obtain ⟨hlen,hcm⟩:l.length≤c∧c≤maxLen:=by obtain ⟨A',c',hv',h1,h2,_⟩:=hv; cases hv'; exact ⟨h1,h2⟩
 unfold maxLen at hcm
 have HV:=qH hv
 obtain ⟨x0,x1⟩:=x
 obtain ⟨rfl,_⟩:=hRx
 simp only at hV hs2
 obtain ⟨n,hn⟩:=gX (l.length)
 have hin:(i:Int) < (n:Int):=by omega
 have hin2:i < n:=by omega
 obtain ⟨nb,hnb⟩:=gX (nameB x0)
 have C2:Hid (∀ W,Calls Tryz.prog 185 #[.string x0] W (RetB nb W)):=qH (fun W => by rw [hnb]; exact isName185 x0 W)
 obtain ⟨tE,htE⟩:=gX (txtE x1)
 have C6:Hid (∀ W,Calls Tryz.prog 183 #[.string x1] W (RetI tE W)):=qH (fun W => by rw [htE]; exact text183 x1 W hs2)
 rw [<- hnb,<- htE] at hV
 obtain ⟨E1,hE1⟩:=gX (orE (!nb) 13)
 have C4:Hid (∀ W,Calls Tryz.prog 51 #[.bool (!nb),.int .i64 13] W fun e w' => e = .returned (.int .i64 E1)∧W = w'):=qH (fun W => by rw [hE1]; exact bo (!nb) 13 W)
 rw [<- hE1] at hV
 rw [<- hn] at hb
 have HB:=qH (Below.refl w.heap.size w)
 by_cases h0:i = 0
 ·have dz:decide (0 < (i:Int)) = false:=by simp; omega
  have dz3:decide (0 < i) = false:=by simp; omega
  have hq:vEq l i (x0,x1) = false∧vLt l i (x0,x1) = false:=by
   unfold vEq vLt
   rw [dz3]
   constructor <;> split <;> rfl
  rw [hq.1,hq.2] at hV
  obtain ⟨E2,hE2⟩:=gX (orE false 7)
  obtain ⟨E3,hE3⟩:=gX (orE false 6)
  have C5:Hid (∀ W,Calls Tryz.prog 51 #[.bool false,.int .i64 7] W fun e w' => e = .returned (.int .i64 E2)∧W = w'):=qH (fun W => by rw [hE2]; exact bo false 7 W)
  have C7:Hid (∀ W,Calls Tryz.prog 51 #[.bool false,.int .i64 6] W fun e w' => e = .returned (.int .i64 E3)∧W = w'):=qH (fun W => by rw [hE3]; exact bo false 6 W)
  rw [<- hE2,<- hE3] at hV
  have HF:=qH hV
  clear hV hE1 hnb htE hE2 hE3 hx hv hcs hn hs2 hq h0 hi
  go_enter Tryz.func184,Tryz.ntmps184
  go_upto_region 1 with fail
  replace hb:w.drew.heap[g]? = some (.cells #[.slice (some ⟨b1,o1,none⟩) n c] 45 (0,0)):=hb
  replace hE:EltS b1 (o1 + i * 2) [.string x0,.string x1] w.drew:=hE
  replace HB:=qH HB.out.drew
  refine aI (S:=fun w' => w'.heap[g]? = some (.cells #[.slice (some ⟨b1,o1,none⟩) n c] 45 (0,0))∧EltS b1 (o1 + i * 2) [.string x0,.string x1] w') [(true,0),(true,1),(true,2),(true,3),(true,4),(true,8),(true,9),(true,26),(true,27),(true,44),(true,45),(true,46),(true,47),(true,48),(false,5),(true,6),(false,7),(true,10),(true,11),(true,12),(true,13),(true,14),(true,15),(true,16),(true,17),(true,18),(true,19),(true,20),(true,21),(true,22),(true,23),(true,24),(false,25),(true,28),(true,29),(true,30),(true,31),(true,32),(true,33),(true,34),(true,35),(true,36),(true,37),(true,38),(true,39),(true,40),(true,41),(true,42),(false,43),(false,49),(false,50),(false,51),(true,52)] (by kernel_rfl) (by kernel_rfl) ⟨hb,hE⟩ ?_
  simp only [aO,List.getElem?_cons_succ,List.getElem?_cons_zero]
  refine gd1 (.slice (some ⟨b1,o1,none⟩) n c) ?_ (fun w' hS => by have q0:=aa hS.1 0; go_simp)
  refine gd1i (i:Int) ?_
  refine gd1p b1 (o1 + i * 2) ?_
  refine gd1p b1 (o1 + i * 2) ?_
  refine gd1 (.string x0) ?_ (fun w' hS => by have q0:=hS.2 0 _ rfl; simp only [Nat.add_zero] at q0; go_simp)
  refine gd1i (i:Int) ?_
  refine gd1b false ?_
  refine gd1i (i:Int) ?_
  refine gd1b false ?_
  refine gd1 (.slice (some ⟨b1,o1,none⟩) n c) ?_ (fun w' hS => by have q0:=aa hS.1 0; go_simp)
  refine gd1i (i:Int) ?_
  refine gd1p b1 (o1 + i * 2) ?_
  refine gd1p b1 (o1 + i * 2 + 1) ?_
  refine gd1 (.string x1) ?_ (fun w' hS => by have q0:=hS.2 1 _ rfl; go_simp)
  refine ax rfl ?_
  refine af 185 #[.string x0] (by go_simp) ?_
  refine Calls.mono (C2.out _) ?_
  rintro e wp1 ⟨rfl,hbp1⟩
  replace hb:=ai hb hbp1
  replace hE:=EltS.over hE hbp1
  replace HB:=qH (HB.out.trans (hbp1.mono HB.out.size))
  clear hbp1
  refine ⟨_,rfl,⟨hb,hE⟩,?_⟩
  refine ad ?_
  simp only [Act.put,PutA,PutZ,PutS]
  refine gd1 (.bool (!nb)) ?_
  refine ax rfl ?_
  refine af 51 #[.bool (!nb),.int .i64 13] (by go_simp) ?_
  refine Calls.mono (C4.out _) ?_
  rintro e wp2 ⟨rfl,rfl⟩
  refine ⟨_,rfl,⟨hb,hE⟩,?_⟩
  refine ad ?_
  simp only [Act.put,PutA,PutZ,PutS]
  refine gd1b false ?_
  refine aA rfl ?_
  simp only [Act.put,PutA,PutZ,PutS]
  refine aA rfl ?_
  simp only [Act.put,PutA,PutZ,PutS]
  refine aA rfl ?_
  simp only [Act.put,PutA,PutZ,PutS]
  refine aA rfl ?_
  simp only [Act.put,PutA,PutZ,PutS]
  refine aA rfl ?_
  simp only [Act.put,PutA,PutZ,PutS]
  refine aA rfl ?_
  simp only [Act.put,PutA,PutZ,PutS]
  refine aA rfl ?_
  simp only [Act.put,PutA,PutZ,PutS]
  refine aA rfl ?_
  simp only [Act.put,PutA,PutZ,PutS]
  refine aA rfl ?_
  simp only [Act.put,PutA,PutZ,PutS]
  refine aA rfl ?_
  simp only [Act.put,PutA,PutZ,PutS]
  refine aA rfl ?_
  simp only [Act.put,PutA,PutZ,PutS]
  refine aA rfl ?_
  simp only [Act.put,PutA,PutZ,PutS]
  refine aA rfl ?_
  simp only [Act.put,PutA,PutZ,PutS]
  refine gd1b false ?_
  refine ax rfl ?_
  refine af 51 #[.bool false,.int .i64 7] (by go_simp) ?_
  refine Calls.mono (C5.out _) ?_
  rintro e wp3 ⟨rfl,rfl⟩
  refine ⟨_,rfl,⟨hb,hE⟩,?_⟩
  refine ad ?_
  simp only [Act.put,PutA,PutZ,PutS]
  refine gd1b false ?_
  refine aA rfl ?_
  simp only [Act.put,PutA,PutZ,PutS]
  refine aA rfl ?_
  simp only [Act.put,PutA,PutZ,PutS]
  refine aA rfl ?_
  simp only [Act.put,PutA,PutZ,PutS]
  refine aA rfl ?_
  simp only [Act.put,PutA,PutZ,PutS]
  refine aA rfl ?_
  simp only [Act.put,PutA,PutZ,PutS]
  refine aA rfl ?_
  simp only [Act.put,PutA,PutZ,PutS]
  refine aA rfl ?_
  simp only [Act.put,PutA,PutZ,PutS]
  refine aA rfl ?_
  simp only [Act.put,PutA,PutZ,PutS]
  refine aA rfl ?_
  simp only [Act.put,PutA,PutZ,PutS]
  refine aA rfl ?_
  simp only [Act.put,PutA,PutZ,PutS]
  refine aA rfl ?_
  simp only [Act.put,PutA,PutZ,PutS]
  refine aA rfl ?_
  simp only [Act.put,PutA,PutZ,PutS]
  refine aA rfl ?_
  simp only [Act.put,PutA,PutZ,PutS]
  refine gd1b false ?_
  refine ax rfl ?_
  refine af 51 #[.bool false,.int .i64 6] (by go_simp) ?_
  refine Calls.mono (C7.out _) ?_
  rintro e wp4 ⟨rfl,rfl⟩
  refine ⟨_,rfl,⟨hb,hE⟩,?_⟩
  refine ad ?_
  simp only [Act.put,PutA,PutZ,PutS]
  refine ax rfl ?_
  refine af 183 #[.string x1] (by go_simp) ?_
  refine Calls.mono (C6.out _) ?_
  rintro e wp5 ⟨rfl,hbp5⟩
  replace hb:=ai hb hbp5
  replace hE:=EltS.over hE hbp5
  replace HB:=qH (HB.out.trans (hbp5.mono HB.out.size))
  clear hbp5
  refine ⟨_,rfl,⟨hb,hE⟩,?_⟩
  refine ad ?_
  simp only [Act.put,PutA,PutZ,PutS]
  refine ax rfl ?_
  refine au (.slice (some ⟨wp5.heap.size,0,none⟩) 4 4) (wp5.alloc (.cells #[.int .i64 E1,.int .i64 E2,.int .i64 E3,.int .i64 tE] 23)) (by go_simp) ?_ ?_
  ·exact ⟨ai hb (ag wp5 _),EltS.over hE (ag wp5 _)⟩
  refine ad ?_
  have hnp6:(wp5.alloc (.cells #[.int .i64 E1,.int .i64 E2,.int .i64 E3,.int .i64 tE] 23)).heap[wp5.heap.size]? = some (.cells #[.int .i64 E1,.int .i64 E2,.int .i64 E3,.int .i64 tE] 23 (0,0)):=heap_alloc_new _ _
  have hbp6:=ag wp5 (.cells #[.int .i64 E1,.int .i64 E2,.int .i64 E3,.int .i64 tE] 23)
  obtain ⟨wp6,hwp6⟩:=gX (wp5.alloc (.cells #[.int .i64 E1,.int .i64 E2,.int .i64 E3,.int .i64 tE] 23))
  obtain ⟨gp6,hgp6⟩:=gX (wp5.heap.size)
  rw [<- hwp6] at hnp6 hbp6 ⊢
  rw [<- hgp6] at hnp6 ⊢
  replace hb:=ai hb hbp6
  replace hE:=EltS.over hE hbp6
  replace HB:=qH (HB.out.trans (hbp6.mono HB.out.size))
  clear hwp6 hgp6 hbp6
  simp only [Act.put,PutA,PutZ,PutS]
  refine ax rfl ?_
  refine af 46 #[.slice (some ⟨gp6,0,none⟩) 4 4] (by go_simp) ?_
  refine Calls.mono (bu [E1,E2,E3,tE] hnp6 rfl (by simp)) ?_
  rintro e wp7 ⟨rfl,rfl⟩
  refine ⟨_,rfl,⟨hb,hE⟩,?_⟩
  refine ad ?_
  simp only [Act.put,PutA,PutZ,PutS]
  refine gd1i (aS [E1,E2,E3,tE]) ?_
  refine bF ?_
  clear hE hb
  go_wp2_with fail
  go_ret
  exact ⟨by rw [HF.out]; rfl,HB.out⟩
 have hi2:decide ((0:Int) < (i:Int)) = true:=by simp; omega
 have hi3:decide (0 < i) = true:=by simp; omega
 obtain ⟨y,hy⟩:∃ y,l[i - 1]? = some y:=⟨_,List.getElem?_eq_getElem (by omega)⟩
 obtain ⟨b2,o2,us,hA,_,hbw2,_,hRy,hds⟩:=hv.at (i - 1) y hy
 injection hA with hA
 injection hA with hA1 hA2
 subst hA1 hA2
 obtain ⟨y0,y1⟩:=y
 obtain ⟨rfl,_⟩:=hRy
 obtain ⟨m,hm⟩:=gX (i - 1)
 have hD:EltS b1 (o1 + (i - 1) * 2) [.string y0,.string y1] w:=hds
 rw [<- hm] at hD
 have em:IntKind.i64.wrap ((i:Int) - 1) = (m:Int):=by rw [IntWalk.i64_in _ (by omega)]; omega
 have em2:wrap64 ((i:Int) - 1) = (m:Int):=by rw [IntWalk.wrap64_in _ (by omega)]; omega
 have em3:(i:Int) - 1 = (m:Int):=by omega
 have em4:IntKind.i64.wrap (m:Int) = (m:Int):=IntWalk.i64_in _ (by omega)
 have emax:(if (i:Int) < 1 then (1:Int) else (i:Int)) = (i:Int):=by split <;> omega
 have hmn:(m:Int) < (n:Int):=by omega
 obtain ⟨qe,hqe⟩:=gX ((x0.toList == y0.toList))
 obtain ⟨ql,hql⟩:=gX (Op.bytesLess x0.toList y0.toList)
 have hq1:vEq l i (x0,x1) = qe:=by unfold vEq; rw [hy,hqe,hi3]; rfl
 have hq2:vLt l i (x0,x1) = ql:=by unfold vLt; rw [hy,hql,hi3]; rfl
 rw [hq1,hq2] at hV
 have fqe:=hqe.symm
 have fql:=hql.symm
 obtain ⟨E2,hE2⟩:=gX (orE qe 7)
 obtain ⟨E3,hE3⟩:=gX (orE ql 6)
 have C5:Hid (∀ W,Calls Tryz.prog 51 #[.bool qe,.int .i64 7] W fun e w' => e = .returned (.int .i64 E2)∧W = w'):=qH (fun W => by rw [hE2]; exact bo qe 7 W)
 have C7:Hid (∀ W,Calls Tryz.prog 51 #[.bool ql,.int .i64 6] W fun e w' => e = .returned (.int .i64 E3)∧W = w'):=qH (fun W => by rw [hE3]; exact bo ql 6 W)
 rw [<- hE2,<- hE3] at hV
 have HF:=qH hV
 clear hV hE1 hnb htE hE2 hE3 hx hv hcs hn hs2 hq1 hq2 h0 hi hqe hql hy hds hm
 go_enter Tryz.func184,Tryz.ntmps184
 go_upto_region 1 with fail
 replace hb:w.drew.heap[g]? = some (.cells #[.slice (some ⟨b1,o1,none⟩) n c] 45 (0,0)):=hb
 replace hE:EltS b1 (o1 + i * 2) [.string x0,.string x1] w.drew:=hE
 replace hD:EltS b1 (o1 + m * 2) [.string y0,.string y1] w.drew:=hD
 replace HB:=qH HB.out.drew
 refine aI (S:=fun w' => w'.heap[g]? = some (.cells #[.slice (some ⟨b1,o1,none⟩) n c] 45 (0,0))∧EltS b1 (o1 + i * 2) [.string x0,.string x1] w'∧EltS b1 (o1 + m * 2) [.string y0,.string y1] w') [(true,0),(true,1),(true,2),(true,3),(true,4),(true,8),(true,9),(true,26),(true,27),(true,44),(true,45),(true,46),(true,47),(true,48),(false,5),(true,6),(false,7),(true,10),(true,11),(true,12),(true,13),(true,14),(true,15),(true,16),(true,17),(true,18),(true,19),(true,20),(true,21),(true,22),(true,23),(true,24),(false,25),(true,28),(true,29),(true,30),(true,31),(true,32),(true,33),(true,34),(true,35),(true,36),(true,37),(true,38),(true,39),(true,40),(true,41),(true,42),(false,43),(false,49),(false,50),(false,51),(true,52)] (by kernel_rfl) (by kernel_rfl) ⟨hb,hE,hD⟩ ?_
 simp only [aO,List.getElem?_cons_succ,List.getElem?_cons_zero]
 refine gd1 (.slice (some ⟨b1,o1,none⟩) n c) ?_ (fun w' hS => by have q0:=aa hS.1 0; go_simp)
 refine gd1i (i:Int) ?_
 refine gd1p b1 (o1 + i * 2) ?_
 refine gd1p b1 (o1 + i * 2) ?_
 refine gd1 (.string x0) ?_ (fun w' hS => by have q0:=hS.2.1 0 _ rfl; simp only [Nat.add_zero] at q0; go_simp)
 refine gd1i (i:Int) ?_
 refine gd1b true ?_
 refine gd1i (i:Int) ?_
 refine gd1b true ?_
 refine gd1 (.slice (some ⟨b1,o1,none⟩) n c) ?_ (fun w' hS => by have q0:=aa hS.1 0; go_simp)
 refine gd1i (i:Int) ?_
 refine gd1p b1 (o1 + i * 2) ?_
 refine gd1p b1 (o1 + i * 2 + 1) ?_
 refine gd1 (.string x1) ?_ (fun w' hS => by have q0:=hS.2.1 1 _ rfl; go_simp)
 refine ax rfl ?_
 refine af 185 #[.string x0] (by go_simp) ?_
 refine Calls.mono (C2.out _) ?_
 rintro e wp1 ⟨rfl,hbp1⟩
 replace hb:=ai hb hbp1
 replace hE:=EltS.over hE hbp1
 replace hD:=EltS.over hD hbp1
 replace HB:=qH (HB.out.trans (hbp1.mono HB.out.size))
 clear hbp1
 refine ⟨_,rfl,⟨hb,hE,hD⟩,?_⟩
 refine ad ?_
 simp only [Act.put,PutA,PutZ,PutS]
 refine gd1 (.bool (!nb)) ?_
 refine ax rfl ?_
 refine af 51 #[.bool (!nb),.int .i64 13] (by go_simp) ?_
 refine Calls.mono (C4.out _) ?_
 rintro e wp2 ⟨rfl,rfl⟩
 refine ⟨_,rfl,⟨hb,hE,hD⟩,?_⟩
 refine ad ?_
 simp only [Act.put,PutA,PutZ,PutS]
 refine gd1b true ?_
 refine gd1 (.slice (some ⟨b1,o1,none⟩) n c) ?_ (fun w' hS => by have q0:=aa hS.1 0; go_simp)
 refine gd1i (i:Int) ?_
 refine gd1p b1 (o1 + i * 2) ?_
 refine gd1p b1 (o1 + i * 2) ?_
 refine gd1 (.string x0) ?_ (fun w' hS => by have q0:=hS.2.1 0 _ rfl; simp only [Nat.add_zero] at q0; go_simp)
 refine gd1 (.slice (some ⟨b1,o1,none⟩) n c) ?_ (fun w' hS => by have q0:=aa hS.1 0; go_simp)
 refine gd1i (i:Int) ?_
 refine gd1i (i:Int) ?_
 refine gd1i (m:Int) ?_
 refine gd1p b1 (o1 + m * 2) ?_
 refine gd1p b1 (o1 + m * 2) ?_
 refine gd1 (.string y0) ?_ (fun w' hS => by have q0:=hS.2.2 0 _ rfl; simp only [Nat.add_zero] at q0; go_simp)
 refine gd1b qe ?_
 refine gd1b qe ?_
 refine ax rfl ?_
 refine af 51 #[.bool qe,.int .i64 7] (by go_simp) ?_
 refine Calls.mono (C5.out _) ?_
 rintro e wp3 ⟨rfl,rfl⟩
 refine ⟨_,rfl,⟨hb,hE,hD⟩,?_⟩
 refine ad ?_
 simp only [Act.put,PutA,PutZ,PutS]
 refine gd1b true ?_
 refine gd1 (.slice (some ⟨b1,o1,none⟩) n c) ?_ (fun w' hS => by have q0:=aa hS.1 0; go_simp)
 refine gd1i (i:Int) ?_
 refine gd1p b1 (o1 + i * 2) ?_
 refine gd1p b1 (o1 + i * 2) ?_
 refine gd1 (.string x0) ?_ (fun w' hS => by have q0:=hS.2.1 0 _ rfl; simp only [Nat.add_zero] at q0; go_simp)
 refine gd1 (.slice (some ⟨b1,o1,none⟩) n c) ?_ (fun w' hS => by have q0:=aa hS.1 0; go_simp)
 refine gd1i (i:Int) ?_
 refine gd1i (i:Int) ?_
 refine gd1i (m:Int) ?_
 refine gd1p b1 (o1 + m * 2) ?_
 refine gd1p b1 (o1 + m * 2) ?_
 refine gd1 (.string y0) ?_ (fun w' hS => by have q0:=hS.2.2 0 _ rfl; simp only [Nat.add_zero] at q0; go_simp)
 refine gd1b ql ?_
 refine gd1b ql ?_
 refine ax rfl ?_
 refine af 51 #[.bool ql,.int .i64 6] (by go_simp) ?_
 refine Calls.mono (C7.out _) ?_
 rintro e wp4 ⟨rfl,rfl⟩
 refine ⟨_,rfl,⟨hb,hE,hD⟩,?_⟩
 refine ad ?_
 simp only [Act.put,PutA,PutZ,PutS]
 refine ax rfl ?_
 refine af 183 #[.string x1] (by go_simp) ?_
 refine Calls.mono (C6.out _) ?_
 rintro e wp5 ⟨rfl,hbp5⟩
 replace hb:=ai hb hbp5
 replace hE:=EltS.over hE hbp5
 replace hD:=EltS.over hD hbp5
 replace HB:=qH (HB.out.trans (hbp5.mono HB.out.size))
 clear hbp5
 refine ⟨_,rfl,⟨hb,hE,hD⟩,?_⟩
 refine ad ?_
 simp only [Act.put,PutA,PutZ,PutS]
 refine ax rfl ?_
 refine au (.slice (some ⟨wp5.heap.size,0,none⟩) 4 4) (wp5.alloc (.cells #[.int .i64 E1,.int .i64 E2,.int .i64 E3,.int .i64 tE] 23)) (by go_simp) ?_ ?_
 ·exact ⟨ai hb (ag wp5 _),EltS.over hE (ag wp5 _),EltS.over hD (ag wp5 _)⟩
 refine ad ?_
 have hnp6:(wp5.alloc (.cells #[.int .i64 E1,.int .i64 E2,.int .i64 E3,.int .i64 tE] 23)).heap[wp5.heap.size]? = some (.cells #[.int .i64 E1,.int .i64 E2,.int .i64 E3,.int .i64 tE] 23 (0,0)):=heap_alloc_new _ _
 have hbp6:=ag wp5 (.cells #[.int .i64 E1,.int .i64 E2,.int .i64 E3,.int .i64 tE] 23)
 obtain ⟨wp6,hwp6⟩:=gX (wp5.alloc (.cells #[.int .i64 E1,.int .i64 E2,.int .i64 E3,.int .i64 tE] 23))
 obtain ⟨gp6,hgp6⟩:=gX (wp5.heap.size)
 rw [<- hwp6] at hnp6 hbp6 ⊢
 rw [<- hgp6] at hnp6 ⊢
 replace hb:=ai hb hbp6
 replace hE:=EltS.over hE hbp6
 replace hD:=EltS.over hD hbp6
 replace HB:=qH (HB.out.trans (hbp6.mono HB.out.size))
 clear hwp6 hgp6 hbp6
 simp only [Act.put,PutA,PutZ,PutS]
 refine ax rfl ?_
 refine af 46 #[.slice (some ⟨gp6,0,none⟩) 4 4] (by go_simp) ?_
 refine Calls.mono (bu [E1,E2,E3,tE] hnp6 rfl (by simp)) ?_
 rintro e wp7 ⟨rfl,rfl⟩
 refine ⟨_,rfl,⟨hb,hE,hD⟩,?_⟩
 refine ad ?_
 simp only [Act.put,PutA,PutZ,PutS]
 refine gd1i (aS [E1,E2,E3,tE]) ?_
 refine bF ?_
 clear hE hb hD
 go_wp2_with fail
 go_ret
 exact ⟨by rw [HF.out]; rfl,HB.out⟩
theorem tab101 (G:Nat→Prop) (w:World) (v:Value) (l:List Vr) (hv:Slv vrP 2 w G v l) (hG:∀ b,G b→b < w.heap.size) (hz:(ak vrE l).length≤1048576000):Calls Tryz.prog 101 #[v] w (RetI (varsT l) w):=by
 obtain ⟨V,hV⟩:=gX (varsT l)
 rw [<- hV]
 unfold varsT at hV
 obtain ⟨A,c,rfl,hlc,hcm⟩:=hv.shape
 unfold maxLen at hcm
 obtain ⟨N,hN⟩:=gX (w.heap.size)
 obtain ⟨W,hW⟩:=gX (w.alloc (.cells #[.slice A l.length c] 45))
 have hb:W.heap[N]? = some (.cells #[.slice A l.length c] 45 (0,0)):=by rw [hW,hN]; exact heap_alloc_new w _
 have hB:Below w.heap.size w W:=by rw [hW]; exact ag w _
 have HVV:=qH hv
 have HGG:=qH hG
 have Hbb:=qH hb
 have C1:Hid (∀ X,Below W.heap.size W X→Calls Tryz.prog 102 #[.int .i64 ((min l.length 128:Nat):Int),.func (.func 184) #[] #[.pointer (some ⟨N,0,none⟩)]] X (RetI (allR (varT l) (min l.length 128) 0) X)):=qH (fun X hX => allB 184 _ (ent 184 _ _ Tryz.func184 (by kernel_rfl) rfl) (min l.length 128) (by omega) (varT l) X (fun i hi Y hY => by
  have hXY:=hX.trans (hY.mono hX.size)
  have hwY:=hB.trans (hXY.mono hB.size)
  exact clo184 G Y A c l i N (by omega) (HVV.out.below stb_vr HGG.out hwY) (fun b h => Nat.lt_of_lt_of_le (HGG.out b h) hwY.size) hz (ai Hbb.out hXY)))
 obtain ⟨n,hn⟩:=gX (l.length)
 obtain ⟨E2,hE2⟩:=gX (allR (varT l) (min l.length 128) 0)
 rw [<- hE2] at C1 hV
 rw [<- hn] at C1 hV hb hW ⊢
 obtain ⟨E1,hE1⟩:=gX (orE (decide (128 < n)) 9)
 have C2:Hid (∀ W,Calls Tryz.prog 51 #[.bool (decide ((128:Int) < (n:Int))),.int .i64 9] W fun e w' => e = .returned (.int .i64 E1)∧W = w'):=qH (fun W => by
  rw [show decide ((128:Int) < (n:Int)) = decide (128 < n) by by_cases h:128 < n <;> simp [h] <;> omega,hE1]
  exact bo _ 9 W)
 rw [<- hE1] at hV
 obtain ⟨m,hm⟩:=gX (min n 128)
 rw [<- hm] at C1
 have emin:(if (128:Int) < (n:Int) then (128:Int) else (n:Int)) = (m:Int):=by split <;> omega
 have HF:=qH hV
 have HW:=qH hW
 have HN:=qH hN
 have HB:=qH hB
 have HB0:=qH (Below.refl W.heap.size W)
 clear hV hE1 hE2 hm hn hW hN hB hv hG hz
 go_enter Tryz.func101,Tryz.ntmps101
 go_upto_region 1 with fail
 rw [<- HW.out,<- HN.out]
 replace hb:W.drew.heap[N]? = some (.cells #[.slice A n c] 45 (0,0)):=hb
 replace HB0:=qH HB0.out.drew
 refine ao (S:=fun w' => w'.heap[N]? = some (.cells #[.slice A n c] 45 (0,0))) [(true,0),(true,1),(true,2),(true,4),(true,5),(true,6),(true,7),(false,3),(false,8),(false,9),(false,10),(true,11)] (by kernel_rfl) (by kernel_rfl) hb ?_
 simp only [aO,List.getElem?_cons_succ,List.getElem?_cons_zero]
 refine sq2 (.slice A n c) ?_ (fun w' hS => by have q0:=aa hS 0; go_simp)
 refine sq2i (n:Int) ?_
 refine sq2 (.bool (decide ((128:Int) < (n:Int)))) ?_
 refine sq2 (.slice A n c) ?_ (fun w' hS => by have q0:=aa hS 0; go_simp)
 refine sq2i (n:Int) ?_
 refine sq2i (m:Int) ?_
 refine sq2 (.func (.func 184) #[] #[.pointer (some ⟨N,0,none⟩)]) ?_
 refine af 51 #[.bool (decide ((128:Int) < (n:Int))),.int .i64 9] (by go_simp) ?_
 refine Calls.mono (C2.out _) ?_
 rintro e wp1 ⟨rfl,rfl⟩
 refine ⟨_,rfl,hb,?_⟩
 simp only [Act.put,PutA,PutZ,PutS]
 refine af 102 #[.int .i64 (m:Int),.func (.func 184) #[] #[.pointer (some ⟨N,0,none⟩)]] (by go_simp) ?_
 refine Calls.mono (C1.out _ HB0.out) ?_
 rintro e wp2 ⟨rfl,hbp2⟩
 replace hb:=ai hb hbp2
 replace HB0:=qH (HB0.out.trans (hbp2.mono HB0.out.size))
 clear hbp2
 refine ⟨_,rfl,hb,?_⟩
 simp only [Act.put,PutA,PutZ,PutS]
 refine au (.slice (some ⟨wp2.heap.size,0,none⟩) 2 2) (wp2.alloc (.cells #[.int .i64 E1,.int .i64 E2] 23)) (by go_simp) ?_ ?_
 ·exact ai hb (ag wp2 _)
 have hnp3:(wp2.alloc (.cells #[.int .i64 E1,.int .i64 E2] 23)).heap[wp2.heap.size]? = some (.cells #[.int .i64 E1,.int .i64 E2] 23 (0,0)):=heap_alloc_new _ _
 have hbp3:=ag wp2 (.cells #[.int .i64 E1,.int .i64 E2] 23)
 obtain ⟨wp3,hwp3⟩:=gX (wp2.alloc (.cells #[.int .i64 E1,.int .i64 E2] 23))
 obtain ⟨gp3,hgp3⟩:=gX (wp2.heap.size)
 rw [<- hwp3] at hnp3 hbp3 ⊢
 rw [<- hgp3] at hnp3 ⊢
 replace hb:=ai hb hbp3
 replace HB0:=qH (HB0.out.trans (hbp3.mono HB0.out.size))
 clear hwp3 hgp3 hbp3
 simp only [Act.put,PutA,PutZ,PutS]
 refine af 46 #[.slice (some ⟨gp3,0,none⟩) 2 2] (by go_simp) ?_
 refine Calls.mono (bu [E1,E2] hnp3 rfl (by simp)) ?_
 rintro e wp4 ⟨rfl,rfl⟩
 refine ⟨_,rfl,hb,?_⟩
 simp only [Act.put,PutA,PutZ,PutS]
 refine sq2i (aS [E1,E2]) ?_
 refine ad ?_
 clear hb
 go_wp2_with fail
 go_ret
 exact ⟨by rw [HF.out]; rfl,HB.out.trans (HB0.out.mono HB.out.size)⟩
end Go.Proofs.YtmhhcfceikcfbaaGreat
