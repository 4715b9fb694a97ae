/- Walks: the table of lists, the settings checked. -/
import Derived.Test.YtmhhcfceikcfbaaGreatDeG4
import Derived.Test.YtmhhcfceikcfbaaGreatDeM9
import Derived.Test.YtmhhcfceikcfbaaGreatDeN10
namespace Go.Proofs.YtmhhcfceikcfbaaGreat
open Go.RowKit
set_option maxRecDepth 100000
set_option maxHeartbeats 4000000
def lstT (C:ByteArray→Int→Int) (l:List Lst) (i:Nat):Int:=match l[i]? with
 | some x => aS [incL (l.map (·.1)) i,lvlsT C x.2]
 | none => 0
def lstsT (C:ByteArray→Int→Int) (l:List Lst):Int:=aS [orE (decide (64 < l.length)) 9,allR (lstT C l) (min l.length 64) 0]
theorem clo176 (C:ByteArray→Int→Int) (hC:TmpC C) (G:Nat→Prop) (w:World) (A:Option Addr) (c:Nat) (l:List Lst) (i:Nat) (g:Nat) (hi:i < l.length) (hv:Slv lstP 2 w G (.slice A l.length c) l) (hG:∀ b,G b→b < w.heap.size) (hz:(ak lstE l).length≤1048576000) (hb:w.heap[g]? = some (.cells #[.slice A l.length c] 43 (0,0))):Calls Tryz.prog 176 #[.int .i64 (i:Int),.pointer (some ⟨g,0,none⟩)] w (RetI (lstT C l i) w):=by
 obtain ⟨V,hV⟩:=gX (lstT C l i)
 rw [<- hV]
 obtain ⟨x,hx⟩:∃ x,l[i]? = some x:=⟨_,List.getElem?_eq_getElem hi⟩
 unfold lstT at hV
 rw [hx] at hV
 simp only at hV
 have hzl:(ak lvlE x.2).length≤1048576000:=by
  have h1:=mem_le (e:=lstE) (List.mem_of_getElem? hx)
  have h2:(ak lvlE x.2).length≤(lstE x).length:=by simp only [lstE,seqE,List.length_append]; omega
  omega
 obtain ⟨b1,o1,vs,rfl,hgb,hbw,_,hRx,hcs⟩:=hv.at i x hx
 have hE:EltS b1 (o1 + i * 2) vs w:=hcs
 obtain ⟨hlen,hcm⟩:l.length≤c∧c≤maxLen:=by obtain ⟨A',c',hv',h1,h2,_⟩:=hv; cases hv'; exact ⟨h1,h2⟩
 unfold maxLen at hcm
 have HV:=qH hv
 obtain ⟨x0,x1⟩:=x
 obtain ⟨pv,rfl,_,hL⟩:=hRx
 obtain ⟨pA,pc,rfl,_,_⟩:=hL.shape
 simp only at hV hzl hL hE
 obtain ⟨pn,hpn⟩:=gX (x1.length)
 rw [<- hpn] at hL hE
 obtain ⟨n,hn⟩:=gX (l.length)
 have hin:(i:Int) < (n:Int):=by omega
 have HG:=qH hG
 have C1:Hid (∀ W,Below w.heap.size w W→Calls Tryz.prog 104 #[.int .i64 (i:Int),.func (.func 177) #[] #[.pointer (some ⟨g,0,none⟩)]] W (RetI (incL (l.map (·.1)) i) W)):=qH (fun W hW => incB 177 g (ent 177 _ _ Tryz.func177 (by kernel_rfl) rfl) (l.map (·.1)) i (by simpa using hi) (by rw [List.length_map]; omega) W (fun k y hy W' hW' => by
  rw [List.getElem?_map] at hy
  obtain ⟨z,hz,rfl⟩:=Option.map_eq_some_iff.1 hy
  have hww:=hW.trans (hW'.mono hW.size)
  exact clo177 G W' _ c l k z g hz (HV.out.below aL HG.out hww) ((hww.block g (ae hb)).trans hb)))
 obtain ⟨E1,hE1⟩:=gX (incL (l.map (·.1)) i)
 rw [<- hE1] at hV C1
 obtain ⟨E2,hE2⟩:=gX (lvlsT C x1)
 have C2:Hid (∀ W,Below w.heap.size w W→Calls Tryz.prog 178 #[.slice pA pn pc] W (RetI E2 W)):=qH (fun W hW => by rw [hE2]; exact levels178 C hC G W _ x1 (hL.below bH hG hW) (fun b h => Nat.lt_of_lt_of_le (hG b h) hW.size) hzl)
 rw [<- hE2] at hV
 have HF:=qH hV
 rw [<- hn] at hb
 have HB:=qH (Below.refl w.heap.size w)
 clear hV hE1 hE2 hx hv hcs hn hzl hG hL hpn hC
 go_enter Tryz.func176,Tryz.ntmps176
 go_upto_region 1 with fail
 replace hb:w.drew.heap[g]? = some (.cells #[.slice (some ⟨b1,o1,none⟩) n c] 43 (0,0)):=hb
 replace hE:EltS b1 (o1 + i * 2) [.int .i64 x0,.slice pA pn pc] w.drew:=hE
 replace HB:=qH HB.out.drew
 refine ao (S:=fun w' => w'.heap[g]? = some (.cells #[.slice (some ⟨b1,o1,none⟩) n c] 43 (0,0))∧EltS b1 (o1 + i * 2) [.int .i64 x0,.slice pA pn pc] w') [(true,0),(true,1),(true,3),(true,4),(true,5),(true,6),(true,7),(false,2),(false,8),(false,9),(false,10),(true,11)] (by kernel_rfl) (by kernel_rfl) ⟨hb,hE⟩ ?_
 simp only [aO,List.getElem?_cons_succ,List.getElem?_cons_zero]
 refine sq2i (i:Int) ?_
 refine sq2 (.func (.func 177) #[] #[.pointer (some ⟨g,0,none⟩)]) ?_
 refine sq2 (.slice (some ⟨b1,o1,none⟩) n c) ?_ (fun w' hS => by have q0:=aa hS.1 0; go_simp)
 refine sq2i (i:Int) ?_
 refine sq2p b1 (o1 + i * 2) ?_
 refine sq2p b1 (o1 + i * 2 + 1) ?_
 refine sq2 (.slice pA pn pc) ?_ (fun w' hS => by have q0:=hS.2 1 _ rfl; go_simp)
 refine af 104 #[.int .i64 (i:Int),.func (.func 177) #[] #[.pointer (some ⟨g,0,none⟩)]] (by go_simp) ?_
 refine Calls.mono (C1.out _ HB.out) ?_
 rintro e wp1 ⟨rfl,hbp1⟩
 replace hb:=ai hb hbp1
 replace hE:=EltS.over hE hbp1
 replace HB:=qH (HB.out.trans (hbp1.mono HB.out.size))
 clear hbp1
 refine ⟨_,rfl,⟨hb,hE⟩,?_⟩
 simp only [Act.put,PutA,PutZ,PutS]
 refine af 178 #[.slice pA pn pc] (by go_simp) ?_
 refine Calls.mono (C2.out _ HB.out) ?_
 rintro e wp2 ⟨rfl,hbp2⟩
 replace hb:=ai hb hbp2
 replace hE:=EltS.over hE hbp2
 replace HB:=qH (HB.out.trans (hbp2.mono HB.out.size))
 clear hbp2
 refine ⟨_,rfl,⟨hb,hE⟩,?_⟩
 simp only [Act.put,PutA,PutZ,PutS]
 refine au (.slice (some ⟨wp2.heap.size,0,none⟩) 2 2) (wp2.alloc (.cells #[.int .i64 E1,.int .i64 E2] 23)) (by go_simp) ?_ ?_
 ·exact ⟨ai hb (ag wp2 _),EltS.over hE (ag wp2 _)⟩
 have hnp3:(wp2.alloc (.cells #[.int .i64 E1,.int .i64 E2] 23)).heap[wp2.heap.size]? = some (.cells #[.int .i64 E1,.int .i64 E2] 23 (0,0)):=heap_alloc_new _ _
 have hbp3:=ag wp2 (.cells #[.int .i64 E1,.int .i64 E2] 23)
 obtain ⟨wp3,hwp3⟩:=gX (wp2.alloc (.cells #[.int .i64 E1,.int .i64 E2] 23))
 obtain ⟨gp3,hgp3⟩:=gX (wp2.heap.size)
 rw [<- hwp3] at hnp3 hbp3 ⊢
 rw [<- hgp3] at hnp3 ⊢
 replace hb:=ai hb hbp3
 replace hE:=EltS.over hE hbp3
 replace HB:=qH (HB.out.trans (hbp3.mono HB.out.size))
 clear hwp3 hgp3 hbp3
 simp only [Act.put,PutA,PutZ,PutS]
 refine af 46 #[.slice (some ⟨gp3,0,none⟩) 2 2] (by go_simp) ?_
 refine Calls.mono (bu [E1,E2] hnp3 rfl (by simp)) ?_
 rintro e wp4 ⟨rfl,rfl⟩
 refine ⟨_,rfl,⟨hb,hE⟩,?_⟩
 simp only [Act.put,PutA,PutZ,PutS]
 refine sq2i (aS [E1,E2]) ?_
 refine ad ?_
 clear hE hb
 go_wp2_with fail
 go_ret
 exact ⟨by rw [HF.out]; rfl,HB.out⟩
theorem tab99 (C:ByteArray→Int→Int) (hC:TmpC C) (G:Nat→Prop) (w:World) (v:Value) (l:List Lst) (hv:Slv lstP 2 w G v l) (hG:∀ b,G b→b < w.heap.size) (hz:(ak lstE l).length≤1048576000):Calls Tryz.prog 99 #[v] w (RetI (lstsT C l) w):=by
 obtain ⟨V,hV⟩:=gX (lstsT C l)
 rw [<- hV]
 unfold lstsT at hV
 obtain ⟨A,c,rfl,hlc,hcm⟩:=hv.shape
 unfold maxLen at hcm
 obtain ⟨N,hN⟩:=gX (w.heap.size)
 obtain ⟨W,hW⟩:=gX (w.alloc (.cells #[.slice A l.length c] 43))
 have hb:W.heap[N]? = some (.cells #[.slice A l.length c] 43 (0,0)):=by rw [hW,hN]; exact heap_alloc_new w _
 have hB:Below w.heap.size w W:=by rw [hW]; exact ag w _
 have HVV:=qH hv
 have HCC:=qH hC
 have HGG:=qH hG
 have Hbb:=qH hb
 have C1:Hid (∀ X,Below W.heap.size W X→Calls Tryz.prog 102 #[.int .i64 ((min l.length 64:Nat):Int),.func (.func 176) #[] #[.pointer (some ⟨N,0,none⟩)]] X (RetI (allR (lstT C l) (min l.length 64) 0) X)):=qH (fun X hX => allB 176 _ (ent 176 _ _ Tryz.func176 (by kernel_rfl) rfl) (min l.length 64) (by omega) (lstT C l) X (fun i hi Y hY => by
  have hXY:=hX.trans (hY.mono hX.size)
  have hwY:=hB.trans (hXY.mono hB.size)
  exact clo176 C HCC.out G Y A c l i N (by omega) (HVV.out.below aL HGG.out hwY) (fun b h => Nat.lt_of_lt_of_le (HGG.out b h) hwY.size) hz (ai Hbb.out hXY)))
 obtain ⟨n,hn⟩:=gX (l.length)
 obtain ⟨E2,hE2⟩:=gX (allR (lstT C l) (min l.length 64) 0)
 rw [<- hE2] at C1 hV
 rw [<- hn] at C1 hV hb hW ⊢
 obtain ⟨E1,hE1⟩:=gX (orE (decide (64 < n)) 9)
 have C2:Hid (∀ W,Calls Tryz.prog 51 #[.bool (decide ((64:Int) < (n:Int))),.int .i64 9] W fun e w' => e = .returned (.int .i64 E1)∧W = w'):=qH (fun W => by
  rw [show decide ((64:Int) < (n:Int)) = decide (64 < n) by by_cases h:64 < n <;> simp [h] <;> omega,hE1]
  exact bo _ 9 W)
 rw [<- hE1] at hV
 obtain ⟨m,hm⟩:=gX (min n 64)
 rw [<- hm] at C1
 have emin:(if (64:Int) < (n:Int) then (64:Int) else (n:Int)) = (m:Int):=by split <;> omega
 have HF:=qH hV
 have HW:=qH hW
 have HN:=qH hN
 have HB:=qH hB
 have HB0:=qH (Below.refl W.heap.size W)
 clear hV hE1 hE2 hm hn hW hN hB hv hG hz hC
 go_enter Tryz.func99,Tryz.ntmps99
 go_upto_region 1 with fail
 rw [<- HW.out,<- HN.out]
 replace hb:W.drew.heap[N]? = some (.cells #[.slice A n c] 43 (0,0)):=hb
 replace HB0:=qH HB0.out.drew
 refine ao (S:=fun w' => w'.heap[N]? = some (.cells #[.slice A n c] 43 (0,0))) [(true,0),(true,1),(true,2),(true,4),(true,5),(true,6),(true,7),(false,3),(false,8),(false,9),(false,10),(true,11)] (by kernel_rfl) (by kernel_rfl) hb ?_
 simp only [aO,List.getElem?_cons_succ,List.getElem?_cons_zero]
 refine sq2 (.slice A n c) ?_ (fun w' hS => by have q0:=aa hS 0; go_simp)
 refine sq2i (n:Int) ?_
 refine sq2 (.bool (decide ((64:Int) < (n:Int)))) ?_
 refine sq2 (.slice A n c) ?_ (fun w' hS => by have q0:=aa hS 0; go_simp)
 refine sq2i (n:Int) ?_
 refine sq2i (m:Int) ?_
 refine sq2 (.func (.func 176) #[] #[.pointer (some ⟨N,0,none⟩)]) ?_
 refine af 51 #[.bool (decide ((64:Int) < (n:Int))),.int .i64 9] (by go_simp) ?_
 refine Calls.mono (C2.out _) ?_
 rintro e wp1 ⟨rfl,rfl⟩
 refine ⟨_,rfl,hb,?_⟩
 simp only [Act.put,PutA,PutZ,PutS]
 refine af 102 #[.int .i64 (m:Int),.func (.func 176) #[] #[.pointer (some ⟨N,0,none⟩)]] (by go_simp) ?_
 refine Calls.mono (C1.out _ HB0.out) ?_
 rintro e wp2 ⟨rfl,hbp2⟩
 replace hb:=ai hb hbp2
 replace HB0:=qH (HB0.out.trans (hbp2.mono HB0.out.size))
 clear hbp2
 refine ⟨_,rfl,hb,?_⟩
 simp only [Act.put,PutA,PutZ,PutS]
 refine au (.slice (some ⟨wp2.heap.size,0,none⟩) 2 2) (wp2.alloc (.cells #[.int .i64 E1,.int .i64 E2] 23)) (by go_simp) ?_ ?_
 ·exact ai hb (ag wp2 _)
 have hnp3:(wp2.alloc (.cells #[.int .i64 E1,.int .i64 E2] 23)).heap[wp2.heap.size]? = some (.cells #[.int .i64 E1,.int .i64 E2] 23 (0,0)):=heap_alloc_new _ _
 have hbp3:=ag wp2 (.cells #[.int .i64 E1,.int .i64 E2] 23)
 obtain ⟨wp3,hwp3⟩:=gX (wp2.alloc (.cells #[.int .i64 E1,.int .i64 E2] 23))
 obtain ⟨gp3,hgp3⟩:=gX (wp2.heap.size)
 rw [<- hwp3] at hnp3 hbp3 ⊢
 rw [<- hgp3] at hnp3 ⊢
 replace hb:=ai hb hbp3
 replace HB0:=qH (HB0.out.trans (hbp3.mono HB0.out.size))
 clear hwp3 hgp3 hbp3
 simp only [Act.put,PutA,PutZ,PutS]
 refine af 46 #[.slice (some ⟨gp3,0,none⟩) 2 2] (by go_simp) ?_
 refine Calls.mono (bu [E1,E2] hnp3 rfl (by simp)) ?_
 rintro e wp4 ⟨rfl,rfl⟩
 refine ⟨_,rfl,hb,?_⟩
 simp only [Act.put,PutA,PutZ,PutS]
 refine sq2i (aS [E1,E2]) ?_
 refine ad ?_
 clear hb
 go_wp2_with fail
 go_ret
 exact ⟨by rw [HF.out]; rfl,HB.out.trans (HB0.out.mono HB.out.size)⟩
def StyC (S:List Sty→Int):Prop:=∀ (G:Nat→Prop) (w:World) (v:Value) (l:List Sty),Slv styP 6 w G v l→(∀ b,G b→b < w.heap.size)→(ak styE l).length≤1048576000→Calls Tryz.prog 98 #[v] w (RetI (S l) w)
def stgT (S:List Sty→Int) (C:ByteArray→Int→Int) (x:Stg):Int:=aS [S x.1,lstsT C x.2.1,cmtsT x.2.2.1,varsT x.2.2.2]
theorem settings47 (S:List Sty→Int) (hS:StyC S) (C:ByteArray→Int→Int) (hC:TmpC C):SetC (stgT S C):=by
 intro G w vs x hX hG hz
 obtain ⟨V,hV⟩:=gX (stgT S C x)
 rw [<- hV]
 unfold stgT at hV
 obtain ⟨v0,v1,v2,v3,rfl,h1,h2,h3,h4⟩:=hX
 obtain ⟨x1,x2,x3,x4⟩:=x
 simp only at h1 h2 h3 h4 hV
 have hz1:(ak styE x1).length≤1048576000:=by simp only [stgE,seqE,List.length_append] at hz; omega
 have hz2:(ak lstE x2).length≤1048576000:=by simp only [stgE,seqE,List.length_append] at hz; omega
 have hz3:(ak cmtE x3).length≤1048576000:=by simp only [stgE,seqE,List.length_append] at hz; omega
 have hz4:(ak vrE x4).length≤1048576000:=by simp only [stgE,seqE,List.length_append] at hz; omega
 obtain ⟨s1,s1c,rfl,_,_⟩:=h1.shape
 obtain ⟨s2,s2c,rfl,_,_⟩:=h2.shape
 obtain ⟨s3,s3c,rfl,_,_⟩:=h3.shape
 obtain ⟨s4,s4c,rfl,_,_⟩:=h4.shape
 obtain ⟨E1,hE1⟩:=gX (S x1)
 obtain ⟨E2,hE2⟩:=gX (lstsT C x2)
 obtain ⟨E3,hE3⟩:=gX (cmtsT x3)
 obtain ⟨E4,hE4⟩:=gX (varsT x4)
 have C1:Hid (∀ W,Below w.heap.size w W→Calls Tryz.prog 98 #[.slice s1 x1.length s1c] W (RetI E1 W)):=qH (fun W hW => by rw [hE1]; exact hS G W _ x1 (h1.below aF hG hW) (fun b h => Nat.lt_of_lt_of_le (hG b h) hW.size) hz1)
 have C2:Hid (∀ W,Below w.heap.size w W→Calls Tryz.prog 99 #[.slice s2 x2.length s2c] W (RetI E2 W)):=qH (fun W hW => by rw [hE2]; exact tab99 C hC G W _ x2 (h2.below aL hG hW) (fun b h => Nat.lt_of_lt_of_le (hG b h) hW.size) hz2)
 have C3:Hid (∀ W,Below w.heap.size w W→Calls Tryz.prog 100 #[.slice s3 x3.length s3c] W (RetI E3 W)):=qH (fun W hW => by rw [hE3]; exact tab100 G W _ x3 (h3.below aY hG hW) (fun b h => Nat.lt_of_lt_of_le (hG b h) hW.size) hz3)
 have C4:Hid (∀ W,Below w.heap.size w W→Calls Tryz.prog 101 #[.slice s4 x4.length s4c] W (RetI E4 W)):=qH (fun W hW => by rw [hE4]; exact tab101 G W _ x4 (h4.below stb_vr hG hW) (fun b h => Nat.lt_of_lt_of_le (hG b h) hW.size) hz4)
 rw [<- hE1,<- hE2,<- hE3,<- hE4] at hV
 obtain ⟨s1n,hn1⟩:=gX (x1.length)
 obtain ⟨s2n,hn2⟩:=gX (x2.length)
 obtain ⟨s3n,hn3⟩:=gX (x3.length)
 obtain ⟨s4n,hn4⟩:=gX (x4.length)
 rw [<- hn1] at C1 ⊢
 rw [<- hn2] at C2 ⊢
 rw [<- hn3] at C3 ⊢
 rw [<- hn4] at C4 ⊢
 have HF:=qH hV
 obtain ⟨N,hN⟩:=gX (w.heap.size)
 obtain ⟨W,hW⟩:=gX (w.alloc (.cells #[.slice s1 s1n s1c,.slice s2 s2n s2c,.slice s3 s3n s3c,.slice s4 s4n s4c] 47))
 have hb:W.heap[N]? = some (.cells #[.slice s1 s1n s1c,.slice s2 s2n s2c,.slice s3 s3n s3c,.slice s4 s4n s4c] 47 (0,0)):=by rw [hW]; exact ah _ _ hN
 have hB:Below w.heap.size w W:=by rw [hW]; exact ag w _
 have HW:=qH hW
 have HN:=qH hN
 have HB:=qH hB
 clear hV hE1 hE2 hE3 hE4 hn1 hn2 hn3 hn4 h1 h2 h3 h4 hz hz1 hz2 hz3 hz4 hG hN hW hB hS hC
 go_enter Tryz.func47,Tryz.ntmps47
 go_upto_region 1 with fail
 rw [<- HW.out,<- HN.out]
 replace hb:W.drew.heap[N]? = some (.cells #[.slice s1 s1n s1c,.slice s2 s2n s2c,.slice s3 s3n s3c,.slice s4 s4n s4c] 47 (0,0)):=hb
 replace HB:=qH HB.out.drew
 refine ao (S:=fun w' => w'.heap[N]? = some (.cells #[.slice s1 s1n s1c,.slice s2 s2n s2c,.slice s3 s3n s3c,.slice s4 s4n s4c] 47 (0,0))) [(true,0),(true,1),(true,3),(true,4),(true,6),(true,7),(true,9),(true,10),(false,2),(false,5),(false,8),(false,11),(false,12),(false,13),(true,14)] (by kernel_rfl) (by kernel_rfl) hb ?_
 simp only [aO,List.getElem?_cons_succ,List.getElem?_cons_zero]
 refine sq2p N 0 ?_
 refine sq2 (.slice s1 s1n s1c) ?_ (fun w' hS => by have q0:=aa hS 0; go_simp)
 refine sq2p N 1 ?_
 refine sq2 (.slice s2 s2n s2c) ?_ (fun w' hS => by have q0:=aa hS 1; go_simp)
 refine sq2p N 2 ?_
 refine sq2 (.slice s3 s3n s3c) ?_ (fun w' hS => by have q0:=aa hS 2; go_simp)
 refine sq2p N 3 ?_
 refine sq2 (.slice s4 s4n s4c) ?_ (fun w' hS => by have q0:=aa hS 3; go_simp)
 refine af 98 #[.slice s1 s1n s1c] (by go_simp) ?_
 refine Calls.mono (C1.out _ HB.out) ?_
 rintro e wp1 ⟨rfl,hbp1⟩
 replace hb:=ai hb hbp1
 replace HB:=qH (HB.out.trans (hbp1.mono HB.out.size))
 clear hbp1
 refine ⟨_,rfl,hb,?_⟩
 simp only [Act.put,PutA,PutZ,PutS]
 refine af 99 #[.slice s2 s2n s2c] (by go_simp) ?_
 refine Calls.mono (C2.out _ HB.out) ?_
 rintro e wp2 ⟨rfl,hbp2⟩
 replace hb:=ai hb hbp2
 replace HB:=qH (HB.out.trans (hbp2.mono HB.out.size))
 clear hbp2
 refine ⟨_,rfl,hb,?_⟩
 simp only [Act.put,PutA,PutZ,PutS]
 refine af 100 #[.slice s3 s3n s3c] (by go_simp) ?_
 refine Calls.mono (C3.out _ HB.out) ?_
 rintro e wp3 ⟨rfl,hbp3⟩
 replace hb:=ai hb hbp3
 replace HB:=qH (HB.out.trans (hbp3.mono HB.out.size))
 clear hbp3
 refine ⟨_,rfl,hb,?_⟩
 simp only [Act.put,PutA,PutZ,PutS]
 refine af 101 #[.slice s4 s4n s4c] (by go_simp) ?_
 refine Calls.mono (C4.out _ HB.out) ?_
 rintro e wp4 ⟨rfl,hbp4⟩
 replace hb:=ai hb hbp4
 replace HB:=qH (HB.out.trans (hbp4.mono HB.out.size))
 clear hbp4
 refine ⟨_,rfl,hb,?_⟩
 simp only [Act.put,PutA,PutZ,PutS]
 refine au (.slice (some ⟨wp4.heap.size,0,none⟩) 4 4) (wp4.alloc (.cells #[.int .i64 E1,.int .i64 E2,.int .i64 E3,.int .i64 E4] 23)) (by go_simp) ?_ ?_
 ·exact ai hb (ag wp4 _)
 have hnp5:(wp4.alloc (.cells #[.int .i64 E1,.int .i64 E2,.int .i64 E3,.int .i64 E4] 23)).heap[wp4.heap.size]? = some (.cells #[.int .i64 E1,.int .i64 E2,.int .i64 E3,.int .i64 E4] 23 (0,0)):=heap_alloc_new _ _
 have hbp5:=ag wp4 (.cells #[.int .i64 E1,.int .i64 E2,.int .i64 E3,.int .i64 E4] 23)
 obtain ⟨wp5,hwp5⟩:=gX (wp4.alloc (.cells #[.int .i64 E1,.int .i64 E2,.int .i64 E3,.int .i64 E4] 23))
 obtain ⟨gp5,hgp5⟩:=gX (wp4.heap.size)
 rw [<- hwp5] at hnp5 hbp5 ⊢
 rw [<- hgp5] at hnp5 ⊢
 replace hb:=ai hb hbp5
 replace HB:=qH (HB.out.trans (hbp5.mono HB.out.size))
 clear hwp5 hgp5 hbp5
 simp only [Act.put,PutA,PutZ,PutS]
 refine af 46 #[.slice (some ⟨gp5,0,none⟩) 4 4] (by go_simp) ?_
 refine Calls.mono (bu [E1,E2,E3,E4] hnp5 rfl (by simp)) ?_
 rintro e wp6 ⟨rfl,rfl⟩
 refine ⟨_,rfl,hb,?_⟩
 simp only [Act.put,PutA,PutZ,PutS]
 refine sq2i (aS [E1,E2,E3,E4]) ?_
 refine ad ?_
 clear hb
 go_wp2_with fail
 go_ret
 exact ⟨by rw [HF.out]; rfl,HB.out⟩
end Go.Proofs.YtmhhcfceikcfbaaGreat
