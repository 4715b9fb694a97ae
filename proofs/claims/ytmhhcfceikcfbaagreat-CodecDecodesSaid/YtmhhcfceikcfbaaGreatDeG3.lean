/- Walks: tables of comments and variables checked. -/
import Derived.Test.YtmhhcfceikcfbaaGreatDeG2
namespace Go.Proofs.YtmhhcfceikcfbaaGreat
open Go.RowKit
set_option maxRecDepth 100000
set_option maxHeartbeats 4000000
theorem clo181 (x0 x1:Int) (x2:ByteArray) (x3:Int) (x4:ByteArray) (x5:Bool) (id:Int) (d:Nat) (w:World) (hc:w.cell? ⟨d,1,none⟩ = some (.int .i64 id)):Calls Tryz.prog 181 #[.agg #[.int .i64 x0,.int .i64 x1,.string x2,.int .i64 x3,.string x4,.bool x5],.pointer (some ⟨d,0,none⟩)] w (RetB (decide (x0 = id)) w):=by
 obtain ⟨V,hV⟩:=gX (decide (x0 = id))
 rw [<- hV]
 have hc2:(w.alloc (.cells #[.int .i64 x0,.int .i64 x1,.string x2,.int .i64 x3,.string x4,.bool x5] 114)).cell? ⟨d,1,none⟩ = some (.int .i64 id):=(World.cell?_of_block (Below.heap_alloc _ _ _ (World.block_lt_of_cell? _ _ hc))).trans hc
 by_cases h:x0 = id
 ·have HV:=qH (show V = true by rw [hV]; simpa using h)
  subst h
  clear hV
  go_enter Tryz.func181,Tryz.ntmps181
  go_wp2_with fail
  go_ret
  exact ⟨by rw [HV.out]; rfl,ag _ _⟩
 have b1:(x0 == id) = false:=by rw [beq_eq_false_iff_ne]; exact h
 have HV:=qH (show V = false by rw [hV]; simpa using h)
 clear hV h
 go_enter Tryz.func181,Tryz.ntmps181
 go_wp2_with fail
 go_ret
 exact ⟨by rw [HV.out]; rfl,ag _ _⟩
theorem idx206 (G:Nat→Prop) (w:World) (v:Value) (l:List Cmt) (id:Int) (d:Nat) (hc:w.cell? ⟨d,1,none⟩ = some (.int .i64 id)) (hv:Slv cmtP 6 w G v l):Calls Tryz.prog 206 #[v,.func (.func 181) #[] #[.pointer (some ⟨d,0,none⟩)]] w (RetI (idxP (fun s:Cmt => decide (s.1 = id)) l) w):=by
 obtain ⟨V,hV⟩:=gX (idxP (fun s:Cmt => decide (s.1 = id)) l)
 rw [<- hV]
 have HVV:=qH hV
 clear hV
 obtain ⟨A,cp,rfl,_,hm1⟩:=hv.shape
 obtain ⟨n,hn⟩:=gX (l.length)
 have hnn:n≤9223372036854775807:=by unfold maxLen at hm1; omega
 have HV:=qH hv
 rw [<- hn]
 have HN:=qH hn
 have Hhc:=qH hc
 clear hv hm1 hn hc
 go_enter Tryz.func206,Tryz.ntmps206
 go_wp2_with fail
 go_loopw [8] (fun iv wr => ∃ i:Nat,iv = .int .i64 (i:Int)∧i≤n∧Hid (∀ y∈l.take i,(fun s:Cmt => decide (s.1 = id)) y = false)∧Hid (Below w.heap.size w wr)) (fun iv _ => n - (intOf iv).toNat)
 case atStart => exact ⟨0,rfl,Nat.zero_le _,qH (fun y hy => by simp at hy),qH (Below.refl _ _)⟩
 obtain ⟨i,rfl,hin,HI,HB⟩:=hrel
 by_cases hlt:i < n
 ·have hlt':(i:Int) < (n:Int):=by omega
  obtain ⟨x,hx⟩:∃ x,l[i]? = some x:=⟨_,List.getElem?_eq_getElem (by rw [<- HN.out]; exact hlt)⟩
  obtain ⟨b1,o1,vs,rfl,_,hbw,_,hRx,hcs⟩:=HV.out.at i x hx
  have hE:EltS b1 (o1 + i * 6) vs wr:=EltS.below (w:=w) hcs hbw HB.out
  obtain ⟨x0,x1,x2,x3,x4,x5⟩:=x
  obtain ⟨rfl,_⟩:=hRx
  have e0:=hE 0 _ rfl
  have e1:=hE 1 _ rfl
  have e2:=hE 2 _ rfl
  have e3:=hE 3 _ rfl
  have e4:=hE 4 _ rfl
  have e5:=hE 5 _ rfl
  simp only [Nat.add_zero] at e0
  have C:=qH (clo181 x0 x1 x2 x3 x4 x5 id d wr ((World.cell?_of_block (a:=⟨d,1,none⟩) (HB.out.block d (World.block_lt_of_cell? _ _ Hhc.out))).trans Hhc.out))
  have HX:=qH hx
  clear hcs hx hE
  go_wp2_with fail
  refine C.out.mono ?_
  rintro e w2 ⟨rfl,hb2⟩
  have HB2:=qH (HB.out.trans (hb2.mono HB.out.size))
  obtain ⟨r,hr⟩:=gX (decide (x0 = id))
  have HR:Hid (r = (fun s:Cmt => decide (s.1 = id)) (x0,x1,x2,x3,x4,x5)):=qH hr
  rw [<- hr]
  clear hb2 C hr e0 e1 e2 e3 e4 e5 HB
  cases r
  ·have HI2:=qH (take_all HI.out HX.out HR.out.symm)
   clear HI HR
   go_wp2_with fail
   exact ⟨⟨i + 1,by go_num,by omega,HI2,HB2⟩,by simp [intOf]; omega⟩
  have HF:=qH (idxP_hit HI.out HX.out HR.out.symm)
  clear HI HR
  go_wp2_with fail
  go_ret
  exact ⟨by rw [HVV.out,HF.out]; rfl,HB2.out⟩
 have hlt':¬ (i:Int) < (n:Int):=by omega
 have HF:=qH (idxP_none (p:=fun s:Cmt => decide (s.1 = id)) (l:=l) (by
  have h1:=HI.out
  rw [List.take_of_length_le (by rw [<- HN.out]; omega)] at h1
  exact h1))
 clear HI
 go_wp2_with fail
 go_ret
 exact ⟨by rw [HVV.out,HF.out]; rfl,HB.out⟩
theorem cont180 (G:Nat→Prop) (w:World) (v:Value) (l:List Cmt) (id:Int) (d:Nat) (hc:w.cell? ⟨d,1,none⟩ = some (.int .i64 id)) (hv:Slv cmtP 6 w G v l):Calls Tryz.prog 180 #[v,.func (.func 181) #[] #[.pointer (some ⟨d,0,none⟩)]] w (RetB (decide (0≤idxP (fun s:Cmt => decide (s.1 = id)) l)) w):=by
 obtain ⟨r,hr⟩:=gX (idxP (fun s:Cmt => decide (s.1 = id)) l)
 have C:=qH (idx206 G w v l id d hc hv)
 rw [<- hr] at C ⊢
 obtain ⟨A,c,rfl,_,_⟩:=hv.shape
 obtain ⟨n,hn⟩:=gX (l.length)
 rw [<- hn] at C ⊢
 clear hc hv hr hn
 go_enter Tryz.func180,Tryz.ntmps180
 go_wp2_with fail
 refine C.out.mono ?_
 rintro e w1 ⟨rfl,hb⟩
 have HB:=qH hb
 clear C hb
 by_cases h:0≤r
 ·have d1:decide (0≤r) = true:=by simpa using h
  have d2:r ≥ 0:=h
  go_wp2_with fail
  go_ret
  rw [d1]
  exact ⟨rfl,HB.out⟩
 have d1:decide (0≤r) = false:=by simpa using h
 have d2:¬ r ≥ 0:=h
 go_wp2_with fail
 go_ret
 rw [d1]
 exact ⟨rfl,HB.out⟩
def bfB (l:List Cmt) (i:Nat) (x:Cmt):Bool:=decide (x.2.1 = 0) || decide (0≤idxP (fun s:Cmt => decide (s.1 = x.2.1)) (l.take i))
def inT (n:Int):Bool:=decide (0≤n) && decide (n≤1099511627776)
def cmtT (l:List Cmt) (i:Nat):Int:=match l[i]? with
 | some x => aS [incL (l.map (·.1)) i,orE (!bfB l i x) 8,orE (!authB x.2.2.1) 39,orE (!inT x.2.2.2.1) 40,txtE x.2.2.2.2.1]
 | none => 0
def cmtsT (l:List Cmt):Int:=aS [orE (decide (1024 < l.length)) 9,allR (cmtT l) (min l.length 1024) 0]
theorem clo179 (G:Nat→Prop) (w:World) (A:Option Addr) (c:Nat) (l:List Cmt) (i:Nat) (g:Nat) (hi:i < l.length) (hv:Slv cmtP 6 w G (.slice A l.length c) l) (hG:∀ b,G b→b < w.heap.size) (hz:(ak cmtE l).length≤1048576000) (hb:w.heap[g]? = some (.cells #[.slice A l.length c] 44 (0,0))):Calls Tryz.prog 179 #[.int .i64 (i:Int),.pointer (some ⟨g,0,none⟩)] w (RetI (cmtT l i) w):=by
 obtain ⟨V,hV⟩:=gX (cmtT l i)
 rw [<- hV]
 obtain ⟨x,hx⟩:∃ x,l[i]? = some x:=⟨_,List.getElem?_eq_getElem hi⟩
 unfold cmtT at hV
 rw [hx] at hV
 simp only at hV
 have hsz:x.2.2.1.size≤1048576000∧x.2.2.2.2.1.size≤1048576000:=by
  have h1:=mem_le (e:=cmtE) (List.mem_of_getElem? hx)
  have h2:(strE x.2.2.1).length + (strE x.2.2.2.2.1).length≤(cmtE x).length:=by simp only [cmtE,seqE,List.length_append]; omega
  have:=strE_le x.2.2.1
  have:=strE_le x.2.2.2.2.1
  omega
 obtain ⟨b1,o1,vs,rfl,hgb,hbw,_,hRx,hcs⟩:=hv.at i x hx
 have hE:EltS b1 (o1 + i * 6) vs w:=hcs
 obtain ⟨hlen,hcm⟩:l.length≤c∧c≤maxLen:=by obtain ⟨A',c',hv',h1,h2,_⟩:=hv; cases hv'; exact ⟨h1,h2⟩
 unfold maxLen at hcm
 have HV:=qH hv
 obtain ⟨x0,x1,x2,x3,x4,x5⟩:=x
 obtain ⟨rfl,_⟩:=hRx
 simp only at hV hsz
 obtain ⟨hs1,hs2⟩:=hsz
 obtain ⟨n,hn⟩:=gX (l.length)
 have hin:(i:Int) < (n:Int):=by omega
 have hicp:i≤c:=by omega
 have hicp2:¬ c < i:=by omega
 have HG:=qH hG
 have C1:Hid (∀ W,Below w.heap.size w W→Calls Tryz.prog 104 #[.int .i64 (i:Int),.func (.func 182) #[] #[.pointer (some ⟨g,0,none⟩)]] W (RetI (incL (l.map (·.1)) i) W)):=qH (fun W hW => incB 182 g (ent 182 _ _ Tryz.func182 (by kernel_rfl) rfl) (l.map (·.1)) i (by simpa using hi) (by rw [List.length_map]; omega) W (fun k y hy W' hW' => by
  rw [List.getElem?_map] at hy
  obtain ⟨z,hz,rfl⟩:=Option.map_eq_some_iff.1 hy
  have hww:=hW.trans (hW'.mono hW.size)
  exact clo182 G W' _ c l k z g hz (HV.out.below aY HG.out hww) ((hww.block g (ae hb)).trans hb)))
 have C0:Hid (∀ W d,Below w.heap.size w W→W.cell? ⟨d,1,none⟩ = some (.int .i64 x1)→Calls Tryz.prog 180 #[.slice (some ⟨b1,o1,none⟩) i c,.func (.func 181) #[] #[.pointer (some ⟨d,0,none⟩)]] W (RetB (decide (0≤idxP (fun s:Cmt => decide (s.1 = x1)) (l.take i))) W)):=qH (fun W d hW hd => cont180 G W _ _ x1 d hd ((HV.out.take i (by omega)).below aY HG.out hW))
 obtain ⟨pb,hpb⟩:=gX (decide (0≤idxP (fun s:Cmt => decide (s.1 = x1)) (l.take i)))
 obtain ⟨bf,hbf⟩:=gX (bfB l i (x0,x1,x2,x3,x4,x5))
 have HBF:=qH (show bf = (decide (x1 = 0) || pb) by rw [hbf,hpb]; rfl)
 rw [<- hpb] at C0
 rw [<- hbf] at hV
 obtain ⟨E1,hE1⟩:=gX (incL (l.map (·.1)) i)
 rw [<- hE1] at hV C1
 obtain ⟨ab,hab⟩:=gX (authB x2)
 have C2:Hid (∀ W,Calls Tryz.prog 106 #[.string x2] W (RetB ab W)):=qH (fun W => by rw [hab]; exact author106 x2 W hs1)
 obtain ⟨ib,hib⟩:=gX (inT x3)
 have C3:Hid (∀ W,Calls Tryz.prog 107 #[.int .i64 x3,.int .i64 0,.int .i64 1099511627776] W fun e w' => e = .returned (.bool ib)∧W = w'):=qH (fun W => by rw [hib]; exact in107 x3 0 1099511627776 W)
 obtain ⟨tE,htE⟩:=gX (txtE x4)
 have C6:Hid (∀ W,Calls Tryz.prog 183 #[.string x4] W (RetI tE W)):=qH (fun W => by rw [htE]; exact text183 x4 W hs2)
 rw [<- hab,<- hib,<- htE] at hV
 obtain ⟨E2,hE2⟩:=gX (orE (!ab) 39)
 obtain ⟨E3,hE3⟩:=gX (orE (!ib) 40)
 obtain ⟨E4,hE4⟩:=gX (orE (!bf) 8)
 have C4:Hid (∀ W,Calls Tryz.prog 51 #[.bool (!ab),.int .i64 39] W fun e w' => e = .returned (.int .i64 E2)∧W = w'):=qH (fun W => by rw [hE2]; exact bo (!ab) 39 W)
 have C5:Hid (∀ W,Calls Tryz.prog 51 #[.bool (!ib),.int .i64 40] W fun e w' => e = .returned (.int .i64 E3)∧W = w'):=qH (fun W => by rw [hE3]; exact bo (!ib) 40 W)
 have C7:Hid (∀ W,Calls Tryz.prog 51 #[.bool (!bf),.int .i64 8] W fun e w' => e = .returned (.int .i64 E4)∧W = w'):=qH (fun W => by rw [hE4]; exact bo (!bf) 8 W)
 rw [<- hE2,<- hE3,<- hE4] at hV
 have HF:=qH hV
 rw [<- hn] at hb
 have e0:=hE 0 _ rfl
 have e1:=hE 1 _ rfl
 have e2:=hE 2 _ rfl
 have e3:=hE 3 _ rfl
 have e4:=hE 4 _ rfl
 have e5:=hE 5 _ rfl
 simp only [Nat.add_zero] at e0
 have c0:=aa hb 0
 obtain ⟨d,hd⟩:=gX (w.heap.size)
 obtain ⟨W,hW⟩:=gX (w.alloc (.cells #[.int .i64 x0,.int .i64 x1,.string x2,.int .i64 x3,.string x4,.bool x5] 114))
 have hbk:W.heap[d]? = some (.cells #[.int .i64 x0,.int .i64 x1,.string x2,.int .i64 x3,.string x4,.bool x5] 114 (0,0)):=by rw [hW]; exact ah _ _ hd
 have hBW:Below w.heap.size w W:=by rw [hW]; exact ag w _
 have hbg:=ai hb hBW
 have HW:=qH hW
 have HD:=qH hd
 have Hbk:=qH hbk
 have Hbg:=qH hbg
 have HB:=qH hBW
 clear hV hE1 hab hib htE hE2 hE3 hE4 hbf hpb hx hv hcs hn hs1 hs2 hG hW hd hbk hbg hBW hE hb
 go_enter Tryz.func179,Tryz.ntmps179
 go_upto_region 2 with fail
 rw [<- HW.out,<- HD.out]
 clear HW e0 e1 e2 e3 e4 e5 c0
 go_cut [5] from 10 to 19 (fun bv wr => bv = .bool bf∧Hid (Below w.heap.size w wr)∧Hid (wr.heap[d]? = some (.cells #[.int .i64 x0,.int .i64 x1,.string x2,.int .i64 x3,.string x4,.bool x5] 114 (0,0)))∧Hid (wr.heap[g]? = some (.cells #[.slice (some ⟨b1,o1,none⟩) n c] 44 (0,0))))
 case first =>
  have z1:=aa Hbk.out 1
  by_cases h:x1 = 0
  ·have dF:=qH (show bf = true by rw [HBF.out]; simp [h])
   subst h
   go_wp2_with fail
   go_meet
   exact ⟨by rw [dF.out],HB,Hbk,Hbg⟩
  have b1':(x1 == 0) = false:=by rw [beq_eq_false_iff_ne]; exact h
  have dF:=qH (show bf = pb by rw [HBF.out]; simp [h])
  have z0:=aa Hbg.out 0
  have C:=qH (C0.out W d HB.out (aa Hbk.out 1))
  clear h
  go_wp2_with fail
  refine C.out.mono ?_
  rintro e w2 ⟨rfl,hb2⟩
  have HB2:=qH (HB.out.trans (hb2.mono HB.out.size))
  have Hbk2:=qH (ai Hbk.out hb2)
  have Hbg2:=qH (ai Hbg.out hb2)
  clear hb2 C z0 z1
  go_wp2_with fail
  go_meet
  exact ⟨by rw [dF.out],HB2,Hbk2,Hbg2⟩
 clear HB Hbk Hbg
 obtain ⟨rfl,HB,Hbk,Hbg⟩:=hcut
 have hbk:=Hbk.out
 have hbg:=Hbg.out
 clear HBF C0 Hbk Hbg
 go_upto_region 3 with fail
 replace hbk:wc.drew.heap[d]? = some (.cells #[.int .i64 x0,.int .i64 x1,.string x2,.int .i64 x3,.string x4,.bool x5] 114 (0,0)):=hbk
 replace HB:=qH HB.out.drew
 refine ao (S:=fun w' => w'.heap[d]? = some (.cells #[.int .i64 x0,.int .i64 x1,.string x2,.int .i64 x3,.string x4,.bool x5] 114 (0,0))) [(true,0),(true,1),(true,3),(true,4),(true,6),(true,7),(true,11),(true,12),(true,16),(true,17),(false,2),(false,5),(false,8),(true,9),(false,10),(false,13),(true,14),(false,15),(false,18),(false,19),(false,20),(true,21)] (by kernel_rfl) (by kernel_rfl) hbk ?_
 simp only [aO,List.getElem?_cons_succ,List.getElem?_cons_zero]
 refine sq2i (i:Int) ?_
 refine sq2 (.func (.func 182) #[] #[.pointer (some ⟨g,0,none⟩)]) ?_
 refine sq2b bf ?_
 refine sq2 (.bool (!bf)) ?_
 refine sq2p d 2 ?_
 refine sq2 (.string x2) ?_ (fun w' hS => by have q0:=aa hS 2; go_simp)
 refine sq2p d 3 ?_
 refine sq2i x3 ?_ (fun w' hS => by have q0:=aa hS 3; go_simp)
 refine sq2p d 4 ?_
 refine sq2 (.string x4) ?_ (fun w' hS => by have q0:=aa hS 4; go_simp)
 refine af 104 #[.int .i64 (i:Int),.func (.func 182) #[] #[.pointer (some ⟨g,0,none⟩)]] (by go_simp) ?_
 refine Calls.mono (C1.out _ HB.out) ?_
 rintro e wp1 ⟨rfl,hbp1⟩
 replace hbk:=ai hbk hbp1
 replace HB:=qH (HB.out.trans (hbp1.mono HB.out.size))
 clear hbp1
 refine ⟨_,rfl,hbk,?_⟩
 simp only [Act.put,PutA,PutZ,PutS]
 refine af 51 #[.bool (!bf),.int .i64 8] (by go_simp) ?_
 refine Calls.mono (C7.out _) ?_
 rintro e wp2 ⟨rfl,rfl⟩
 refine ⟨_,rfl,hbk,?_⟩
 simp only [Act.put,PutA,PutZ,PutS]
 refine af 106 #[.string x2] (by go_simp) ?_
 refine Calls.mono (C2.out _) ?_
 rintro e wp3 ⟨rfl,hbp3⟩
 replace hbk:=ai hbk hbp3
 replace HB:=qH (HB.out.trans (hbp3.mono HB.out.size))
 clear hbp3
 refine ⟨_,rfl,hbk,?_⟩
 simp only [Act.put,PutA,PutZ,PutS]
 refine sq2 (.bool (!ab)) ?_
 refine af 51 #[.bool (!ab),.int .i64 39] (by go_simp) ?_
 refine Calls.mono (C4.out _) ?_
 rintro e wp4 ⟨rfl,rfl⟩
 refine ⟨_,rfl,hbk,?_⟩
 simp only [Act.put,PutA,PutZ,PutS]
 refine af 107 #[.int .i64 x3,.int .i64 0,.int .i64 1099511627776] (by go_simp) ?_
 refine Calls.mono (C3.out _) ?_
 rintro e wp5 ⟨rfl,rfl⟩
 refine ⟨_,rfl,hbk,?_⟩
 simp only [Act.put,PutA,PutZ,PutS]
 refine sq2 (.bool (!ib)) ?_
 refine af 51 #[.bool (!ib),.int .i64 40] (by go_simp) ?_
 refine Calls.mono (C5.out _) ?_
 rintro e wp6 ⟨rfl,rfl⟩
 refine ⟨_,rfl,hbk,?_⟩
 simp only [Act.put,PutA,PutZ,PutS]
 refine af 183 #[.string x4] (by go_simp) ?_
 refine Calls.mono (C6.out _) ?_
 rintro e wp7 ⟨rfl,hbp7⟩
 replace hbk:=ai hbk hbp7
 replace HB:=qH (HB.out.trans (hbp7.mono HB.out.size))
 clear hbp7
 refine ⟨_,rfl,hbk,?_⟩
 simp only [Act.put,PutA,PutZ,PutS]
 refine au (.slice (some ⟨wp7.heap.size,0,none⟩) 5 5) (wp7.alloc (.cells #[.int .i64 E1,.int .i64 E4,.int .i64 E2,.int .i64 E3,.int .i64 tE] 23)) (by go_simp) ?_ ?_
 ·exact ai hbk (ag wp7 _)
 have hnp8:(wp7.alloc (.cells #[.int .i64 E1,.int .i64 E4,.int .i64 E2,.int .i64 E3,.int .i64 tE] 23)).heap[wp7.heap.size]? = some (.cells #[.int .i64 E1,.int .i64 E4,.int .i64 E2,.int .i64 E3,.int .i64 tE] 23 (0,0)):=heap_alloc_new _ _
 have hbp8:=ag wp7 (.cells #[.int .i64 E1,.int .i64 E4,.int .i64 E2,.int .i64 E3,.int .i64 tE] 23)
 obtain ⟨wp8,hwp8⟩:=gX (wp7.alloc (.cells #[.int .i64 E1,.int .i64 E4,.int .i64 E2,.int .i64 E3,.int .i64 tE] 23))
 obtain ⟨gp8,hgp8⟩:=gX (wp7.heap.size)
 rw [<- hwp8] at hnp8 hbp8 ⊢
 rw [<- hgp8] at hnp8 ⊢
 replace hbk:=ai hbk hbp8
 replace HB:=qH (HB.out.trans (hbp8.mono HB.out.size))
 clear hwp8 hgp8 hbp8
 simp only [Act.put,PutA,PutZ,PutS]
 refine af 46 #[.slice (some ⟨gp8,0,none⟩) 5 5] (by go_simp) ?_
 refine Calls.mono (bu [E1,E4,E2,E3,tE] hnp8 rfl (by simp)) ?_
 rintro e wp9 ⟨rfl,rfl⟩
 refine ⟨_,rfl,hbk,?_⟩
 simp only [Act.put,PutA,PutZ,PutS]
 refine sq2i (aS [E1,E4,E2,E3,tE]) ?_
 refine ad ?_
 clear hbk hbg
 go_wp2_with fail
 go_ret
 exact ⟨by rw [HF.out]; rfl,HB.out⟩
theorem tab100 (G:Nat→Prop) (w:World) (v:Value) (l:List Cmt) (hv:Slv cmtP 6 w G v l) (hG:∀ b,G b→b < w.heap.size) (hz:(ak cmtE l).length≤1048576000):Calls Tryz.prog 100 #[v] w (RetI (cmtsT l) w):=by
 obtain ⟨V,hV⟩:=gX (cmtsT l)
 rw [<- hV]
 unfold cmtsT at hV
 obtain ⟨A,c,rfl,hlc,hcm⟩:=hv.shape
 unfold maxLen at hcm
 obtain ⟨N,hN⟩:=gX (w.heap.size)
 obtain ⟨W,hW⟩:=gX (w.alloc (.cells #[.slice A l.length c] 44))
 have hb:W.heap[N]? = some (.cells #[.slice A l.length c] 44 (0,0)):=by rw [hW,hN]; exact heap_alloc_new w _
 have hB:Below w.heap.size w W:=by rw [hW]; exact ag w _
 have HVV:=qH hv
 have HGG:=qH hG
 have Hbb:=qH hb
 have C1:Hid (∀ X,Below W.heap.size W X→Calls Tryz.prog 102 #[.int .i64 ((min l.length 1024:Nat):Int),.func (.func 179) #[] #[.pointer (some ⟨N,0,none⟩)]] X (RetI (allR (cmtT l) (min l.length 1024) 0) X)):=qH (fun X hX => allB 179 _ (ent 179 _ _ Tryz.func179 (by kernel_rfl) rfl) (min l.length 1024) (by omega) (cmtT l) X (fun i hi Y hY => by
  have hXY:=hX.trans (hY.mono hX.size)
  have hwY:=hB.trans (hXY.mono hB.size)
  exact clo179 G Y A c l i N (by omega) (HVV.out.below aY HGG.out hwY) (fun b h => Nat.lt_of_lt_of_le (HGG.out b h) hwY.size) hz (ai Hbb.out hXY)))
 obtain ⟨n,hn⟩:=gX (l.length)
 obtain ⟨E2,hE2⟩:=gX (allR (cmtT l) (min l.length 1024) 0)
 rw [<- hE2] at C1 hV
 rw [<- hn] at C1 hV hb hW ⊢
 obtain ⟨E1,hE1⟩:=gX (orE (decide (1024 < n)) 9)
 have C2:Hid (∀ W,Calls Tryz.prog 51 #[.bool (decide ((1024:Int) < (n:Int))),.int .i64 9] W fun e w' => e = .returned (.int .i64 E1)∧W = w'):=qH (fun W => by
  rw [show decide ((1024:Int) < (n:Int)) = decide (1024 < n) by by_cases h:1024 < n <;> simp [h] <;> omega,hE1]
  exact bo _ 9 W)
 rw [<- hE1] at hV
 obtain ⟨m,hm⟩:=gX (min n 1024)
 rw [<- hm] at C1
 have emin:(if (1024:Int) < (n:Int) then (1024:Int) else (n:Int)) = (m:Int):=by split <;> omega
 have HF:=qH hV
 have HW:=qH hW
 have HN:=qH hN
 have HB:=qH hB
 have HB0:=qH (Below.refl W.heap.size W)
 clear hV hE1 hE2 hm hn hW hN hB hv hG hz
 go_enter Tryz.func100,Tryz.ntmps100
 go_upto_region 1 with fail
 rw [<- HW.out,<- HN.out]
 replace hb:W.drew.heap[N]? = some (.cells #[.slice A n c] 44 (0,0)):=hb
 replace HB0:=qH HB0.out.drew
 refine ao (S:=fun w' => w'.heap[N]? = some (.cells #[.slice A n c] 44 (0,0))) [(true,0),(true,1),(true,2),(true,4),(true,5),(true,6),(true,7),(false,3),(false,8),(false,9),(false,10),(true,11)] (by kernel_rfl) (by kernel_rfl) hb ?_
 simp only [aO,List.getElem?_cons_succ,List.getElem?_cons_zero]
 refine sq2 (.slice A n c) ?_ (fun w' hS => by have q0:=aa hS 0; go_simp)
 refine sq2i (n:Int) ?_
 refine sq2 (.bool (decide ((1024:Int) < (n:Int)))) ?_
 refine sq2 (.slice A n c) ?_ (fun w' hS => by have q0:=aa hS 0; go_simp)
 refine sq2i (n:Int) ?_
 refine sq2i (m:Int) ?_
 refine sq2 (.func (.func 179) #[] #[.pointer (some ⟨N,0,none⟩)]) ?_
 refine af 51 #[.bool (decide ((1024:Int) < (n:Int))),.int .i64 9] (by go_simp) ?_
 refine Calls.mono (C2.out _) ?_
 rintro e wp1 ⟨rfl,rfl⟩
 refine ⟨_,rfl,hb,?_⟩
 simp only [Act.put,PutA,PutZ,PutS]
 refine af 102 #[.int .i64 (m:Int),.func (.func 179) #[] #[.pointer (some ⟨N,0,none⟩)]] (by go_simp) ?_
 refine Calls.mono (C1.out _ HB0.out) ?_
 rintro e wp2 ⟨rfl,hbp2⟩
 replace hb:=ai hb hbp2
 replace HB0:=qH (HB0.out.trans (hbp2.mono HB0.out.size))
 clear hbp2
 refine ⟨_,rfl,hb,?_⟩
 simp only [Act.put,PutA,PutZ,PutS]
 refine au (.slice (some ⟨wp2.heap.size,0,none⟩) 2 2) (wp2.alloc (.cells #[.int .i64 E1,.int .i64 E2] 23)) (by go_simp) ?_ ?_
 ·exact ai hb (ag wp2 _)
 have hnp3:(wp2.alloc (.cells #[.int .i64 E1,.int .i64 E2] 23)).heap[wp2.heap.size]? = some (.cells #[.int .i64 E1,.int .i64 E2] 23 (0,0)):=heap_alloc_new _ _
 have hbp3:=ag wp2 (.cells #[.int .i64 E1,.int .i64 E2] 23)
 obtain ⟨wp3,hwp3⟩:=gX (wp2.alloc (.cells #[.int .i64 E1,.int .i64 E2] 23))
 obtain ⟨gp3,hgp3⟩:=gX (wp2.heap.size)
 rw [<- hwp3] at hnp3 hbp3 ⊢
 rw [<- hgp3] at hnp3 ⊢
 replace hb:=ai hb hbp3
 replace HB0:=qH (HB0.out.trans (hbp3.mono HB0.out.size))
 clear hwp3 hgp3 hbp3
 simp only [Act.put,PutA,PutZ,PutS]
 refine af 46 #[.slice (some ⟨gp3,0,none⟩) 2 2] (by go_simp) ?_
 refine Calls.mono (bu [E1,E2] hnp3 rfl (by simp)) ?_
 rintro e wp4 ⟨rfl,rfl⟩
 refine ⟨_,rfl,hb,?_⟩
 simp only [Act.put,PutA,PutZ,PutS]
 refine sq2i (aS [E1,E2]) ?_
 refine ad ?_
 clear hb
 go_wp2_with fail
 go_ret
 exact ⟨by rw [HF.out]; rfl,HB.out.trans (HB0.out.mono HB.out.size)⟩
end Go.Proofs.YtmhhcfceikcfbaaGreat
