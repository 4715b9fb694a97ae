/- Walks: the law's bytes of heads. -/
import Derived.Test.YtmhhcfceikcfbaaGreatDcL2
namespace Go.Proofs.YtmhhcfceikcfbaaGreat
open Go.RowKit
set_option maxRecDepth 100000
set_option maxHeartbeats 4000000
theorem str_head (G:Nat→Prop) (w:World) (vs:List Value) (x:Hd) (hR:hdP w G vs x) (hG:∀ b,G b→b < w.heap.size) (hz:(hdE x).length≤1099511627776):Calls Tryz.prog 69 #[.agg vs.toArray] w (StrE w (hdE x)):=by
 obtain ⟨pv,dv,lv,rfl,hi1,hi2,hp,hd,hl⟩:=hR
 obtain ⟨pA,pc,hpv,hp1,hp2⟩:=hp.shape
 subst hpv
 unfold maxLen at hp2
 obtain ⟨np,hnp⟩:=gX ((x.1).length)
 rw [<- hnp] at hp
 rw [<- hnp]
 have HNp:=qH hnp
 have HVp:=qH hp
 obtain ⟨dA,dc,hdv,hd1,hd2⟩:=hd.shape
 subst hdv
 unfold maxLen at hd2
 obtain ⟨nd,hnd⟩:=gX ((x.2.2.2.1).length)
 rw [<- hnd] at hd
 rw [<- hnd]
 have HNd:=qH hnd
 have HVd:=qH hd
 obtain ⟨lA,lc,hlv,hl1,hl2⟩:=hl.shape
 subst hlv
 unfold maxLen at hl2
 obtain ⟨nl,hnl⟩:=gX ((x.2.2.2.2).length)
 rw [<- hnl] at hl
 rw [<- hnl]
 have HNl:=qH hnl
 have HVl:=qH hl
 have hE0:hdE x = (aj twoE x.1++[x.2.1,x.2.2.1,(nd:Int)].flatMap encN)++x.2.2.2.1.flatMap twoE++encN (nl:Int)++x.2.2.2.2.flatMap layE:=by
  rw [hnd,hnl]
  simp [hdE,seqE,aj]
 obtain ⟨RR,hRR⟩:=gX (hdE x)
 rw [<- hRR]
 rw [hE0] at hz hRR
 have hnd2:I64 (nd:Int):=by unfold I64; omega
 have hnl2:I64 (nl:Int):=by unfold I64; omega
 have hndb:nd≤9223372036854775807:=by omega
 have hnlb:nl≤9223372036854775807:=by omega
 clear hp1 hp2 hd1 hd2 hl1 hl2
 obtain ⟨P1,hP1⟩:=gX (aj twoE x.1)
 have C1:Hid (∀ (W:World),Below w.heap.size w W→Calls Tryz.prog 143 #[.slice pA np pc] W (StrE W P1)):=qH (fun W hW => by rw [hP1]; exact str_props G W _ x.1 (HVp.out.below aH hG hW) (fun b h => Nat.lt_of_lt_of_le (hG b h) hW.size) (by simp only [List.length_append] at hz; omega))
 obtain ⟨P2,hP2⟩:=gX ([x.2.1,x.2.2.1,(nd:Int)].flatMap encN)
 have C2:Hid (∀ (W:World) (g:Nat),(∀ (j:Nat) (y:Int),[x.2.1,x.2.2.1,(nd:Int)][j]? = some y→W.cell? ⟨g,j,none⟩ = some (.int .i64 y))→Calls Tryz.prog 67 #[.slice (some ⟨g,0,none⟩) 3 3] W (StrE W P2)):=qH (fun W g h => by rw [hP2]; exact nums67 [x.2.1,x.2.2.1,(nd:Int)] g 3 W h (by simp only [List.mem_cons,List.not_mem_nil,or_false]; rintro m (rfl | rfl | rfl) <;> assumption) (by simp))
 obtain ⟨S0,hS0⟩:=gX (P1++P2)
 have ka:=addL P1 P2 (by rw [hP1,hP2]; simp only [List.length_append] at hz ⊢; omega)
 rw [<- hS0] at ka
 rw [<- hP1,<- hP2,<- hS0] at hz hRR
 have HZ1:Hid ((S0++x.2.2.2.1.flatMap twoE).length≤1099511627776):=qH (by simp only [List.length_append] at hz ⊢; omega)
 have HZ:=qH hz
 have HRR:=qH hRR
 have hX:(w.alloc (.cells #[.slice pA np pc,.int .i64 x.2.1,.int .i64 x.2.2.1,.slice dA nd dc,.slice lA nl lc] 40)).drew.heap[w.heap.size]? = some (.cells #[.slice pA np pc,.int .i64 x.2.1,.int .i64 x.2.2.1,.slice dA nd dc,.slice lA nl lc] 40 (0,0)):=heap_alloc_new w _
 have HB:Hid (Below w.heap.size w (w.alloc (.cells #[.slice pA np pc,.int .i64 x.2.1,.int .i64 x.2.2.1,.slice dA nd dc,.slice lA nl lc] 40)).drew):=qH ((Below.refl _ _).alloc (Nat.le_refl _) _).drew
 clear hz hRR hE0 hP1 hP2 hS0 hp hd hl hnp hnd hnl
 go_enter Tryz.func69,Tryz.ntmps69
 go_upto_region 1 with fail
 obtain ⟨wy,hwy⟩:=gX (w.alloc (.cells #[.slice pA np pc,.int .i64 x.2.1,.int .i64 x.2.2.1,.slice dA nd dc,.slice lA nl lc] 40))
 rw [<- hwy] at hX HB ⊢
 clear hwy
 refine wp_region_tr (S:=fun w' => w'.heap[w.heap.size]? = some (.cells #[.slice pA np pc,.int .i64 x.2.1,.int .i64 x.2.2.1,.slice dA nd dc,.slice lA nl lc] 40 (0,0))) (.ld 0 (.ld 1 (.ld 3 (.ld 4 (.ld 5 (.ld 6 (.ld 7 (.ld 8 (.ld 9 (.ld 10 (.ld 11 (.ld 12 (.br 2 (.run 13 (.run 14 (.ld 15 (.ld 16 (.done))))) 13 (.run 2 (.run 14 (.ld 15 (.ld 16 (.done)))))))))))))))))) (by kernel_rfl) (by kernel_rfl) hX ?_
 simp only [Tr.pick,List.getElem?_cons_succ,List.getElem?_cons_zero]
 refine tr1p (w.heap.size) 0 ?_
 refine tr1 (.slice pA np pc) ?_ (fun w' hS => by have q:=aa hS 0; go_simp)
 refine tr1p (w.heap.size) 1 ?_
 refine tr1p (w.heap.size) 1 ?_
 refine tr1i (x.2.1) ?_ (fun w' hS => by have q:=aa hS 1; go_simp)
 refine tr1p (w.heap.size) 1 ?_
 refine tr1p (w.heap.size) 2 ?_
 refine tr1i (x.2.2.1) ?_ (fun w' hS => by have q:=aa hS 2; go_simp)
 refine tr1p (w.heap.size) 1 ?_
 refine tr1p (w.heap.size) 3 ?_
 refine tr1 (.slice dA nd dc) ?_ (fun w' hS => by have q:=aa hS 3; go_simp)
 refine tr1i (nd:Int) ?_
 refine tr_br ?_ ?_
 ·refine ae 143 #[.slice pA np pc] (by go_simp) ?_
  refine Calls.mono (C1.out _ HB.out) ?_
  rintro e wx1 ⟨rfl,hb1⟩
  replace hX:=(hb1.block _ (ac hX)).trans hX
  replace HB:=qH (HB.out.trans (hb1.mono HB.out.size))
  clear hb1
  refine ⟨_,rfl,hX,?_⟩
  refine ad ?_
  simp only [Act.put,PutA,PutZ,PutS]
  refine bs ?_
  refine aq (.slice (some ⟨wx1.heap.size,0,none⟩) 3 3) (wx1.alloc (.cells #[.int .i64 x.2.1,.int .i64 x.2.2.1,.int .i64 (nd:Int)] 3)) (by go_simp) ?_ ?_
  ·exact (Below.heap_alloc _ _ _ (ac hX)).trans hX
  have hq2:wx1.heap.size < (wx1.alloc (.cells #[.int .i64 x.2.1,.int .i64 x.2.2.1,.int .i64 (nd:Int)] 3)).heap.size:=by simp
  have hn2:(wx1.alloc (.cells #[.int .i64 x.2.1,.int .i64 x.2.2.1,.int .i64 (nd:Int)] 3)).heap[wx1.heap.size]? = some (.cells #[.int .i64 x.2.1,.int .i64 x.2.2.1,.int .i64 (nd:Int)] 3 (0,0)):=heap_alloc_new _ _
  have ha2:Below wx1.heap.size wx1 (wx1.alloc (.cells #[.int .i64 x.2.1,.int .i64 x.2.2.1,.int .i64 (nd:Int)] 3)):=(Below.refl _ _).alloc (Nat.le_refl _) _
  obtain ⟨wb2,hwb2⟩:=gX (wx1.alloc (.cells #[.int .i64 x.2.1,.int .i64 x.2.2.1,.int .i64 (nd:Int)] 3))
  obtain ⟨g2,hg2⟩:=gX (wx1.heap.size)
  rw [<- hwb2] at hq2 hn2 ha2 ⊢
  rw [<- hg2] at hn2 ⊢
  replace hX:=(ha2.block _ (ac hX)).trans hX
  replace HB:=qH (HB.out.trans (ha2.mono HB.out.size))
  clear hwb2 hg2 ha2 hq2
  refine ad ?_
  simp only [Act.put,PutA,PutZ,PutS]
  refine bs ?_
  refine ae 67 #[.slice (some ⟨g2,0,none⟩) 3 3] (by go_simp) ?_
  refine Calls.mono (C2.out _ g2 (fun j y hj => (aa hn2 j).trans (by rw [List.getElem?_toArray]; exact bj hj))) ?_
  rintro e wx2 ⟨rfl,hb2⟩
  replace hX:=(hb2.block _ (ac hX)).trans hX
  clear hn2
  replace HB:=qH (HB.out.trans (hb2.mono HB.out.size))
  clear hb2
  refine ⟨_,rfl,hX,?_⟩
  refine ad ?_
  simp only [Act.put,PutA,PutZ,PutS]
  refine tr1 (.string (mkB (S0))) ?_
  refine tr1 (.string (mkB (S0))) ?_
  refine tr_done ?_
  have HX:=qH hX
  clear hX ka C1 C2
  have cb:=aa HX.out 3
  go_wp2_with fail
  clear cb
  go_loopw [3,4] (fun sv iv wr => ∃ i:Nat,iv = .int .i64 (i:Int)∧i≤nd∧sv = .string (mkB (S0++(x.2.2.2.1.take i).flatMap twoE))∧Hid (Below w.heap.size w wr)∧Hid (wr.heap[w.heap.size]? = some (.cells #[.slice pA np pc,.int .i64 x.2.1,.int .i64 x.2.2.1,.slice dA nd dc,.slice lA nl lc] 40 (0,0)))) (fun _ iv _ => nd - (intOf iv).toNat)
  case atStart => exact ⟨0,rfl,Nat.zero_le _,by simp,HB,HX⟩
  clear HB HX
  obtain ⟨i,rfl,hin,rfl,HB,HX⟩:=hrel
  have cb:=aa HX.out 3
  by_cases hlt:i < nd
  ·have hlt':(i:Int) < (nd:Int):=by omega
   obtain ⟨x1,hx⟩:∃ y,x.2.2.2.1[i]? = some y:=⟨_,List.getElem?_eq_getElem (by rw [<- HNd.out]; exact hlt)⟩
   obtain ⟨b,o,vs,rfl,hgb,hbw0,hvl,hRx,hcs⟩:=HVd.out.at i x1 hx
   have hE:EltS b (o + i * 2) vs wr:=EltS.below (w:=w) hcs hbw0 HB.out
   have hbw:b < wr.heap.size:=Nat.lt_of_lt_of_le hbw0 HB.out.size
   obtain ⟨v0,v1,rfl⟩:=len_2 hvl
   obtain ⟨he,hx1,hx2⟩:=hRx
   obtain ⟨rfl,rfl⟩:v0 = .int .i64 x1.1∧v1 = .int .i64 x1.2:=by simpa using he
   have hxl:(S0++(x.2.2.2.1.take (i + 1)).flatMap twoE).length≤1099511627776:=by
    have h2:=HZ1.out
    have h3:=aL twoE x.2.2.2.1 (i + 1)
    rw [List.length_append] at h2 ⊢
    omega
   rw [aA twoE hx] at hxl
   obtain ⟨L0,hL0⟩:=gX (S0++(x.2.2.2.1.take i).flatMap twoE)
   obtain ⟨P4,hP4⟩:=gX ([x1.1,x1.2].flatMap encN)
   have C4:Hid (∀ (W:World) (g:Nat),(∀ (j:Nat) (y:Int),[x1.1,x1.2][j]? = some y→W.cell? ⟨g,j,none⟩ = some (.int .i64 y))→Calls Tryz.prog 67 #[.slice (some ⟨g,0,none⟩) 2 2] W (StrE W P4)):=qH (fun W g h => by rw [hP4]; exact nums67 [x1.1,x1.2] g 2 W h (by simp only [List.mem_cons,List.not_mem_nil,or_false]; rintro m (rfl | rfl) <;> assumption) (by simp))
   have HT:Hid (L0++P4 = S0++(x.2.2.2.1.take (i + 1)).flatMap twoE):=qH (by
    rw [aA twoE hx,<- List.append_assoc,<- hL0,hP4]
    simp [twoE,seqE])
   have hll:(L0++P4).length≤1099511627776:=by rw [HT.out,aA twoE hx]; exact hxl
   obtain ⟨Q1,hQ1⟩:=gX (L0++P4)
   have ka4:=addL L0 P4 (by simp only [List.length_append] at hll ⊢; omega)
   rw [<- hQ1] at ka4
   rw [<- hQ1] at HT
   rw [<- hL0]
   clear hx hcs hgb hbw0 hL0 hP4 hQ1 hll hxl
   go_upto_region 5 with fail
   replace hE:=hE.drew
   replace HB:=qH HB.out.drew
   have hX0:wr.drew.heap[w.heap.size]? = some (.cells #[.slice pA np pc,.int .i64 x.2.1,.int .i64 x.2.2.1,.slice (some ⟨b,o,none⟩) nd dc,.slice lA nl lc] 40 (0,0)):=HX.out
   clear cb HX
   refine ak (S:=fun w' => w'.heap[w.heap.size]? = some (.cells #[.slice pA np pc,.int .i64 x.2.1,.int .i64 x.2.2.1,.slice (some ⟨b,o,none⟩) nd dc,.slice lA nl lc] 40 (0,0))∧EltS b (o + i * 2) [.int .i64 x1.1,.int .i64 x1.2] w') [(true,0),(true,1),(true,2),(true,3),(true,4),(true,5),(true,6),(true,7),(true,8),(true,9),(true,10),(true,11),(true,12),(true,13),(true,14),(false,15),(false,16),(true,17),(true,18)] (by kernel_rfl) (by kernel_rfl) ⟨hX0,hE⟩ ?_
   simp only [aF,List.getElem?_cons_succ,List.getElem?_cons_zero]
   refine sq2 (.string (mkB (L0))) ?_
   refine sq2p (w.heap.size) 1 ?_
   refine sq2p (w.heap.size) 3 ?_
   refine sq2 (.slice (some ⟨b,o,none⟩) nd dc) ?_ (fun w' hS => by have q0:=aa hS.1 3; go_simp)
   refine sq2i (i:Int) ?_
   refine sq2p b (o + i * 2) ?_
   refine sq2p b (o + i * 2) ?_
   refine sq2i (x1.1) ?_ (fun w' hS => by have q0:=hS.2 0 (.int .i64 x1.1) rfl; simp only [Nat.add_zero] at q0; go_simp)
   refine sq2p (w.heap.size) 1 ?_
   refine sq2p (w.heap.size) 3 ?_
   refine sq2 (.slice (some ⟨b,o,none⟩) nd dc) ?_ (fun w' hS => by have q0:=aa hS.1 3; go_simp)
   refine sq2i (i:Int) ?_
   refine sq2p b (o + i * 2) ?_
   refine sq2p b (o + i * 2 + 1) ?_
   refine sq2i (x1.2) ?_ (fun w' hS => by have q0:=hS.2 1 (.int .i64 x1.2) rfl; go_simp)
   refine aq (.slice (some ⟨wr.drew.heap.size,0,none⟩) 2 2) (wr.drew.alloc (.cells #[.int .i64 x1.1,.int .i64 x1.2] 3)) (by go_simp) ?_ ?_
   ·exact ⟨(Below.heap_alloc _ _ _ (ac hX0)).trans hX0,hE.alloc hbw _⟩
   have hq4:wr.drew.heap.size < (wr.drew.alloc (.cells #[.int .i64 x1.1,.int .i64 x1.2] 3)).heap.size:=by simp
   have hn4:(wr.drew.alloc (.cells #[.int .i64 x1.1,.int .i64 x1.2] 3)).heap[wr.drew.heap.size]? = some (.cells #[.int .i64 x1.1,.int .i64 x1.2] 3 (0,0)):=heap_alloc_new _ _
   have ha4:Below wr.drew.heap.size wr.drew (wr.drew.alloc (.cells #[.int .i64 x1.1,.int .i64 x1.2] 3)):=(Below.refl _ _).alloc (Nat.le_refl _) _
   obtain ⟨wb4,hwb4⟩:=gX (wr.drew.alloc (.cells #[.int .i64 x1.1,.int .i64 x1.2] 3))
   obtain ⟨g4,hg4⟩:=gX (wr.drew.heap.size)
   rw [<- hwb4] at hq4 hn4 ha4 ⊢
   rw [<- hg4] at hn4 ⊢
   replace hX0:=(ha4.block _ (ac hX0)).trans hX0
   replace hE:=hE.below hbw ha4
   replace hbw:=Nat.lt_of_lt_of_le hbw ha4.size
   replace HB:=qH (HB.out.trans (ha4.mono HB.out.size))
   clear hwb4 hg4 ha4 hq4
   simp only [Act.put,PutA,PutZ,PutS]
   refine ae 67 #[.slice (some ⟨g4,0,none⟩) 2 2] (by go_simp) ?_
   refine Calls.mono (C4.out _ g4 (fun j y hj => (aa hn4 j).trans (by rw [List.getElem?_toArray]; exact bj hj))) ?_
   rintro e wx4 ⟨rfl,hb4⟩
   replace hX0:=(hb4.block _ (ac hX0)).trans hX0
   replace hE:=hE.below hbw hb4
   clear hn4
   replace hbw:=Nat.lt_of_lt_of_le hbw hb4.size
   replace HB:=qH (HB.out.trans (hb4.mono HB.out.size))
   clear hb4
   refine ⟨_,rfl,⟨hX0,hE⟩,?_⟩
   simp only [Act.put,PutA,PutZ,PutS]
   refine sq2 (.string (mkB (Q1))) ?_
   refine sq2 (.string (mkB (Q1))) ?_
   refine ad ?_
   have HX:=qH hX0
   clear hX0 hE ka4 C4
   go_wp2_with fail
   go_roundw
   case rel => exact ⟨i + 1,by go_num,by omega,by rw [HT.out],HB,HX⟩
   simp [intOf]; omega
  have hii:i = nd:=by omega
  have hlt':¬ (i:Int) < (nd:Int):=by omega
  have etk:x.2.2.2.1.take i = x.2.2.2.1:=List.take_of_length_le (by rw [<- HNd.out,hii]; exact Nat.le_refl _)
  obtain ⟨S1,hS1⟩:=gX (S0++(x.2.2.2.1.take i).flatMap twoE)
  rw [<- hS1]
  rw [etk] at hS1
  have HS1:=qH hS1
  clear etk hS1 hii
  have cb4:=aa HX.out 4
  obtain ⟨P3,hP3⟩:=gX (encN (nl:Int))
  have C3:Hid (∀ (W:World),Calls Tryz.prog 16 #[.int .i64 (nl:Int)] W (StrE W P3)):=qH (fun W => by rw [hP3]; exact bm _ hnl2 W)
  obtain ⟨S2,hS2⟩:=gX (S1++P3)
  have hzz:(S2++x.2.2.2.2.flatMap layE).length≤1099511627776:=by
   have:=HZ.out
   rw [hS2,hP3,HS1.out]
   exact this
  have ka:=addL S1 P3 (by rw [hS2] at hzz; simp only [List.length_append] at hzz; omega)
  rw [<- hS2] at ka
  have HS2:Hid (S2 = S0++x.2.2.2.1.flatMap twoE++encN (nl:Int)):=qH (by rw [hS2,hP3,HS1.out])
  have HZ2:=qH hzz
  clear hP3 hS2 hzz
  go_wp2_with fail
  refine (C3.out _).mono ?_
  rintro e w9 ⟨rfl,hb9⟩
  replace HX:=qH ((hb9.block _ (ac HX.out)).trans HX.out)
  replace HB:=qH (HB.out.trans (hb9.mono HB.out.size))
  clear hb9 C3 cb4 cb
  have cb:=aa HX.out 4
  go_wp2_with fail
  clear cb ka
  go_loopw [3,5] (fun sv iv wr => ∃ i:Nat,iv = .int .i64 (i:Int)∧i≤nl∧sv = .string (mkB (S2++(x.2.2.2.2.take i).flatMap layE))∧Hid (Below w.heap.size w wr)∧Hid (wr.heap[w.heap.size]? = some (.cells #[.slice pA np pc,.int .i64 x.2.1,.int .i64 x.2.2.1,.slice dA nd dc,.slice lA nl lc] 40 (0,0)))) (fun _ iv _ => nl - (intOf iv).toNat)
  case atStart => exact ⟨0,rfl,Nat.zero_le _,by simp,HB,HX⟩
  clear HB HX
  obtain ⟨i,rfl,hin,rfl,HB,HX⟩:=hrel
  have cb:=aa HX.out 4
  by_cases hlt:i < nl
  ·have hlt':(i:Int) < (nl:Int):=by omega
   obtain ⟨x1,hx⟩:∃ y,x.2.2.2.2[i]? = some y:=⟨_,List.getElem?_eq_getElem (by rw [<- HNl.out]; exact hlt)⟩
   obtain ⟨b,o,vs,rfl,hgb,hbw0,hvl,hRx,hcs⟩:=HVl.out.at i x1 hx
   have hE:EltS b (o + i * 4) vs wr:=EltS.below (w:=w) hcs hbw0 HB.out
   have hbw:b < wr.heap.size:=Nat.lt_of_lt_of_le hbw0 HB.out.size
   have hO1:∀ u∈vs,u.oneCell' = true:=one_lay w G vs x1 hRx
   obtain ⟨v0,v1,v2,v3,rfl⟩:=len_4 hvl
   obtain ⟨he,hx1,hx2,hx3,_⟩:=hRx
   obtain ⟨rfl,rfl,rfl,rfl⟩:v0 = .int .i64 x1.1∧v1 = .int .i64 x1.2.1∧v2 = .int .i64 x1.2.2.1∧v3 = .bool x1.2.2.2:=by simpa using he
   have hxl:(S2++(x.2.2.2.2.take (i + 1)).flatMap layE).length≤1099511627776:=by
    have h2:=HZ2.out
    have h3:=aL layE x.2.2.2.2 (i + 1)
    rw [List.length_append] at h2 ⊢
    omega
   rw [aA layE hx] at hxl
   obtain ⟨L0,hL0⟩:=gX (S2++(x.2.2.2.2.take i).flatMap layE)
   obtain ⟨P5,hP5⟩:=gX ([x1.1,x1.2.1,x1.2.2.1].flatMap encN)
   have C5:Hid (∀ (W:World) (g:Nat),(∀ (j:Nat) (y:Int),[x1.1,x1.2.1,x1.2.2.1][j]? = some y→W.cell? ⟨g,j,none⟩ = some (.int .i64 y))→Calls Tryz.prog 67 #[.slice (some ⟨g,0,none⟩) 3 3] W (StrE W P5)):=qH (fun W g h => by rw [hP5]; exact nums67 [x1.1,x1.2.1,x1.2.2.1] g 3 W h (by simp only [List.mem_cons,List.not_mem_nil,or_false]; rintro m (rfl | rfl | rfl) <;> assumption) (by simp))
   obtain ⟨P6,hP6⟩:=gX (flagE x1.2.2.2)
   have C6:Hid (∀ (W:World),Calls Tryz.prog 84 #[.bool x1.2.2.2] W (StrE W P6)):=qH (fun W => by rw [hP6]; exact flg84 x1.2.2.2 W)
   have HT:Hid (L0++P5++P6 = S2++(x.2.2.2.2.take (i + 1)).flatMap layE):=qH (by
    rw [aA layE hx,<- List.append_assoc,<- hL0,hP5,hP6]
    simp [layE,seqE])
   have hll:(L0++P5++P6).length≤1099511627776:=by rw [HT.out,aA layE hx]; exact hxl
   obtain ⟨Q1,hQ1⟩:=gX (L0++P5)
   have ka5:=addL L0 P5 (by simp only [List.length_append] at hll ⊢; omega)
   rw [<- hQ1] at ka5
   obtain ⟨Q2,hQ2⟩:=gX (Q1++P6)
   have ka6:=addL Q1 P6 (by rw [hQ1]; simp only [List.length_append] at hll ⊢; omega)
   rw [<- hQ2] at ka6
   rw [<- hQ1,<- hQ2] at HT
   rw [<- hL0]
   clear hx hcs hgb hbw0 hL0 hP5 hP6 hQ1 hQ2 hll hxl
   have e0:=hE 0 (.int .i64 x1.1) rfl
   simp only [Nat.add_zero] at e0
   have e1:=hE 1 (.int .i64 x1.2.1) rfl
   have e2:=hE 2 (.int .i64 x1.2.2.1) rfl
   have e3:=hE 3 (.bool x1.2.2.2) rfl
   have h1:(#[.int .i64 x1.1,.int .i64 x1.2.1,.int .i64 x1.2.2.1,.bool x1.2.2.2]:Array Value).all (·.oneCell') = true:=by
    rw [Array.all_eq_true']
    intro u hu
    exact hO1 u (by simpa using hu)
   go_upto_region 11 with (refine wpList_store_row rfl 201 _ _ rfl wr.heap.size #[.int .i64 x1.1,.int .i64 x1.2.1,.int .i64 x1.2.2.1,.bool x1.2.2.2] rfl rfl 201 _ (heap_alloc_new _ _) size201 rfl h1 ?_; rw [ar])
   clear hE h1 hO1 e0 e1 e2 e3
   obtain ⟨q,hq⟩:=gX (wr.heap.size)
   obtain ⟨wy,hwy⟩:=gX (wr.alloc (.cells #[.int .i64 x1.1,.int .i64 x1.2.1,.int .i64 x1.2.2.1,.bool x1.2.2.2] 201))
   have hY:wy.drew.heap[q]? = some (.cells #[.int .i64 x1.1,.int .i64 x1.2.1,.int .i64 x1.2.2.1,.bool x1.2.2.2] 201 (0,0)):=by rw [hwy,hq]; exact heap_alloc_new wr _
   have hX0:wy.drew.heap[w.heap.size]? = some (.cells #[.slice pA np pc,.int .i64 x.2.1,.int .i64 x.2.2.1,.slice dA nd dc,.slice (some ⟨b,o,none⟩) nl lc] 40 (0,0)):=by rw [hwy]; exact (Below.heap_alloc wr _ _ (ac HX.out)).trans HX.out
   replace HB:Hid (Below w.heap.size w wy.drew):=qH (by rw [hwy]; exact (HB.out.alloc HB.out.size _).drew)
   rw [<- hwy]
   rw [<- hq]
   clear hq hwy cb HX
   refine ak (S:=fun w' => w'.heap[q]? = some (.cells #[.int .i64 x1.1,.int .i64 x1.2.1,.int .i64 x1.2.2.1,.bool x1.2.2.2] 201 (0,0))∧w'.heap[w.heap.size]? = some (.cells #[.slice pA np pc,.int .i64 x.2.1,.int .i64 x.2.2.1,.slice dA nd dc,.slice (some ⟨b,o,none⟩) nl lc] 40 (0,0))) [(true,0),(true,1),(true,2),(true,3),(true,4),(true,5),(true,6),(true,10),(true,11),(false,7),(false,8),(true,9),(false,12),(true,13),(true,14)] (by kernel_rfl) (by kernel_rfl) ⟨hY,hX0⟩ ?_
   simp only [aF,List.getElem?_cons_succ,List.getElem?_cons_zero]
   refine sq2 (.string (mkB (L0))) ?_
   refine sq2p q 0 ?_
   refine sq2i (x1.1) ?_ (fun w' hS => by have q0:=aa hS.1 0; go_simp)
   refine sq2p q 1 ?_
   refine sq2i (x1.2.1) ?_ (fun w' hS => by have q0:=aa hS.1 1; go_simp)
   refine sq2p q 2 ?_
   refine sq2i (x1.2.2.1) ?_ (fun w' hS => by have q0:=aa hS.1 2; go_simp)
   refine sq2p q 3 ?_
   refine sq2 (.bool x1.2.2.2) ?_ (fun w' hS => by have q0:=aa hS.1 3; go_simp)
   refine aq (.slice (some ⟨wy.drew.heap.size,0,none⟩) 3 3) (wy.drew.alloc (.cells #[.int .i64 x1.1,.int .i64 x1.2.1,.int .i64 x1.2.2.1] 3)) (by go_simp) ?_ ?_
   ·exact ⟨(Below.heap_alloc _ _ _ (ac hY)).trans hY,(Below.heap_alloc _ _ _ (ac hX0)).trans hX0⟩
   have hq5:wy.drew.heap.size < (wy.drew.alloc (.cells #[.int .i64 x1.1,.int .i64 x1.2.1,.int .i64 x1.2.2.1] 3)).heap.size:=by simp
   have hn5:(wy.drew.alloc (.cells #[.int .i64 x1.1,.int .i64 x1.2.1,.int .i64 x1.2.2.1] 3)).heap[wy.drew.heap.size]? = some (.cells #[.int .i64 x1.1,.int .i64 x1.2.1,.int .i64 x1.2.2.1] 3 (0,0)):=heap_alloc_new _ _
   have ha5:Below wy.drew.heap.size wy.drew (wy.drew.alloc (.cells #[.int .i64 x1.1,.int .i64 x1.2.1,.int .i64 x1.2.2.1] 3)):=(Below.refl _ _).alloc (Nat.le_refl _) _
   obtain ⟨wb5,hwb5⟩:=gX (wy.drew.alloc (.cells #[.int .i64 x1.1,.int .i64 x1.2.1,.int .i64 x1.2.2.1] 3))
   obtain ⟨g5,hg5⟩:=gX (wy.drew.heap.size)
   rw [<- hwb5] at hq5 hn5 ha5 ⊢
   rw [<- hg5] at hn5 ⊢
   replace hY:=(ha5.block _ (ac hY)).trans hY
   replace hX0:=(ha5.block _ (ac hX0)).trans hX0
   replace HB:=qH (HB.out.trans (ha5.mono HB.out.size))
   clear hwb5 hg5 ha5 hq5
   simp only [Act.put,PutA,PutZ,PutS]
   refine ae 67 #[.slice (some ⟨g5,0,none⟩) 3 3] (by go_simp) ?_
   refine Calls.mono (C5.out _ g5 (fun j y hj => (aa hn5 j).trans (by rw [List.getElem?_toArray]; exact bj hj))) ?_
   rintro e wx5 ⟨rfl,hb5⟩
   replace hY:=(hb5.block _ (ac hY)).trans hY
   replace hX0:=(hb5.block _ (ac hX0)).trans hX0
   clear hn5
   replace HB:=qH (HB.out.trans (hb5.mono HB.out.size))
   clear hb5
   refine ⟨_,rfl,⟨hY,hX0⟩,?_⟩
   simp only [Act.put,PutA,PutZ,PutS]
   refine sq2 (.string (mkB (Q1))) ?_
   refine ae 84 #[.bool x1.2.2.2] (by go_simp) ?_
   refine Calls.mono (C6.out _) ?_
   rintro e wx6 ⟨rfl,hb6⟩
   replace hY:=(hb6.block _ (ac hY)).trans hY
   replace hX0:=(hb6.block _ (ac hX0)).trans hX0
   replace HB:=qH (HB.out.trans (hb6.mono HB.out.size))
   clear hb6
   refine ⟨_,rfl,⟨hY,hX0⟩,?_⟩
   simp only [Act.put,PutA,PutZ,PutS]
   refine sq2 (.string (mkB (Q2))) ?_
   refine sq2 (.string (mkB (Q2))) ?_
   refine ad ?_
   have HX:=qH hX0
   clear hX0 hY ka5 C5 ka6 C6
   go_wp2_with fail
   go_roundw
   case rel => exact ⟨i + 1,by go_num,by omega,by rw [HT.out],HB,HX⟩
   simp [intOf]; omega
  have hii:i = nl:=by omega
  have hlt':¬ (i:Int) < (nl:Int):=by omega
  have etk:x.2.2.2.2.take i = x.2.2.2.2:=List.take_of_length_le (by rw [<- HNl.out,hii]; exact Nat.le_refl _)
  obtain ⟨S3,hS3⟩:=gX (S2++(x.2.2.2.2.take i).flatMap layE)
  rw [<- hS3]
  rw [etk] at hS3
  have HS3:=qH hS3
  clear etk hS3 hii
  have HE:Hid (S3 = RR):=qH (by rw [HS3.out,HS2.out,HRR.out])
  go_wp2_with fail
  go_ret
  exact ⟨by rw [<- HE.out]; rfl,HB.out⟩
 refine aq (.slice (some ⟨wy.drew.heap.size,0,none⟩) 3 3) (wy.drew.alloc (.cells #[.int .i64 x.2.1,.int .i64 x.2.2.1,.int .i64 (nd:Int)] 3)) (by go_simp) ?_ ?_
 ·exact (Below.heap_alloc _ _ _ (ac hX)).trans hX
 have hq2:wy.drew.heap.size < (wy.drew.alloc (.cells #[.int .i64 x.2.1,.int .i64 x.2.2.1,.int .i64 (nd:Int)] 3)).heap.size:=by simp
 have hn2:(wy.drew.alloc (.cells #[.int .i64 x.2.1,.int .i64 x.2.2.1,.int .i64 (nd:Int)] 3)).heap[wy.drew.heap.size]? = some (.cells #[.int .i64 x.2.1,.int .i64 x.2.2.1,.int .i64 (nd:Int)] 3 (0,0)):=heap_alloc_new _ _
 have ha2:Below wy.drew.heap.size wy.drew (wy.drew.alloc (.cells #[.int .i64 x.2.1,.int .i64 x.2.2.1,.int .i64 (nd:Int)] 3)):=(Below.refl _ _).alloc (Nat.le_refl _) _
 obtain ⟨wb2,hwb2⟩:=gX (wy.drew.alloc (.cells #[.int .i64 x.2.1,.int .i64 x.2.2.1,.int .i64 (nd:Int)] 3))
 obtain ⟨g2,hg2⟩:=gX (wy.drew.heap.size)
 rw [<- hwb2] at hq2 hn2 ha2 ⊢
 rw [<- hg2] at hn2 ⊢
 replace hX:=(ha2.block _ (ac hX)).trans hX
 replace HB:=qH (HB.out.trans (ha2.mono HB.out.size))
 clear hwb2 hg2 ha2 hq2
 refine ad ?_
 simp only [Act.put,PutA,PutZ,PutS]
 refine bs ?_
 refine ae 143 #[.slice pA np pc] (by go_simp) ?_
 refine Calls.mono (C1.out _ HB.out) ?_
 rintro e wx1 ⟨rfl,hb1⟩
 replace hX:=(hb1.block _ (ac hX)).trans hX
 replace hn2:=(hb1.block _ (ac hn2)).trans hn2
 replace HB:=qH (HB.out.trans (hb1.mono HB.out.size))
 clear hb1
 refine ⟨_,rfl,hX,?_⟩
 refine ad ?_
 simp only [Act.put,PutA,PutZ,PutS]
 refine bs ?_
 refine ae 67 #[.slice (some ⟨g2,0,none⟩) 3 3] (by go_simp) ?_
 refine Calls.mono (C2.out _ g2 (fun j y hj => (aa hn2 j).trans (by rw [List.getElem?_toArray]; exact bj hj))) ?_
 rintro e wx2 ⟨rfl,hb2⟩
 replace hX:=(hb2.block _ (ac hX)).trans hX
 clear hn2
 replace HB:=qH (HB.out.trans (hb2.mono HB.out.size))
 clear hb2
 refine ⟨_,rfl,hX,?_⟩
 refine ad ?_
 simp only [Act.put,PutA,PutZ,PutS]
 refine tr1 (.string (mkB (S0))) ?_
 refine tr1 (.string (mkB (S0))) ?_
 refine tr_done ?_
 have HX:=qH hX
 clear hX ka C1 C2
 have cb:=aa HX.out 3
 go_wp2_with fail
 clear cb
 go_loopw [3,4] (fun sv iv wr => ∃ i:Nat,iv = .int .i64 (i:Int)∧i≤nd∧sv = .string (mkB (S0++(x.2.2.2.1.take i).flatMap twoE))∧Hid (Below w.heap.size w wr)∧Hid (wr.heap[w.heap.size]? = some (.cells #[.slice pA np pc,.int .i64 x.2.1,.int .i64 x.2.2.1,.slice dA nd dc,.slice lA nl lc] 40 (0,0)))) (fun _ iv _ => nd - (intOf iv).toNat)
 case atStart => exact ⟨0,rfl,Nat.zero_le _,by simp,HB,HX⟩
 clear HB HX
 obtain ⟨i,rfl,hin,rfl,HB,HX⟩:=hrel
 have cb:=aa HX.out 3
 by_cases hlt:i < nd
 ·have hlt':(i:Int) < (nd:Int):=by omega
  obtain ⟨x1,hx⟩:∃ y,x.2.2.2.1[i]? = some y:=⟨_,List.getElem?_eq_getElem (by rw [<- HNd.out]; exact hlt)⟩
  obtain ⟨b,o,vs,rfl,hgb,hbw0,hvl,hRx,hcs⟩:=HVd.out.at i x1 hx
  have hE:EltS b (o + i * 2) vs wr:=EltS.below (w:=w) hcs hbw0 HB.out
  have hbw:b < wr.heap.size:=Nat.lt_of_lt_of_le hbw0 HB.out.size
  obtain ⟨v0,v1,rfl⟩:=len_2 hvl
  obtain ⟨he,hx1,hx2⟩:=hRx
  obtain ⟨rfl,rfl⟩:v0 = .int .i64 x1.1∧v1 = .int .i64 x1.2:=by simpa using he
  have hxl:(S0++(x.2.2.2.1.take (i + 1)).flatMap twoE).length≤1099511627776:=by
   have h2:=HZ1.out
   have h3:=aL twoE x.2.2.2.1 (i + 1)
   rw [List.length_append] at h2 ⊢
   omega
  rw [aA twoE hx] at hxl
  obtain ⟨L0,hL0⟩:=gX (S0++(x.2.2.2.1.take i).flatMap twoE)
  obtain ⟨P4,hP4⟩:=gX ([x1.1,x1.2].flatMap encN)
  have C4:Hid (∀ (W:World) (g:Nat),(∀ (j:Nat) (y:Int),[x1.1,x1.2][j]? = some y→W.cell? ⟨g,j,none⟩ = some (.int .i64 y))→Calls Tryz.prog 67 #[.slice (some ⟨g,0,none⟩) 2 2] W (StrE W P4)):=qH (fun W g h => by rw [hP4]; exact nums67 [x1.1,x1.2] g 2 W h (by simp only [List.mem_cons,List.not_mem_nil,or_false]; rintro m (rfl | rfl) <;> assumption) (by simp))
  have HT:Hid (L0++P4 = S0++(x.2.2.2.1.take (i + 1)).flatMap twoE):=qH (by
   rw [aA twoE hx,<- List.append_assoc,<- hL0,hP4]
   simp [twoE,seqE])
  have hll:(L0++P4).length≤1099511627776:=by rw [HT.out,aA twoE hx]; exact hxl
  obtain ⟨Q1,hQ1⟩:=gX (L0++P4)
  have ka4:=addL L0 P4 (by simp only [List.length_append] at hll ⊢; omega)
  rw [<- hQ1] at ka4
  rw [<- hQ1] at HT
  rw [<- hL0]
  clear hx hcs hgb hbw0 hL0 hP4 hQ1 hll hxl
  go_upto_region 5 with fail
  replace hE:=hE.drew
  replace HB:=qH HB.out.drew
  have hX0:wr.drew.heap[w.heap.size]? = some (.cells #[.slice pA np pc,.int .i64 x.2.1,.int .i64 x.2.2.1,.slice (some ⟨b,o,none⟩) nd dc,.slice lA nl lc] 40 (0,0)):=HX.out
  clear cb HX
  refine ak (S:=fun w' => w'.heap[w.heap.size]? = some (.cells #[.slice pA np pc,.int .i64 x.2.1,.int .i64 x.2.2.1,.slice (some ⟨b,o,none⟩) nd dc,.slice lA nl lc] 40 (0,0))∧EltS b (o + i * 2) [.int .i64 x1.1,.int .i64 x1.2] w') [(true,0),(true,1),(true,2),(true,3),(true,4),(true,5),(true,6),(true,7),(true,8),(true,9),(true,10),(true,11),(true,12),(true,13),(true,14),(false,15),(false,16),(true,17),(true,18)] (by kernel_rfl) (by kernel_rfl) ⟨hX0,hE⟩ ?_
  simp only [aF,List.getElem?_cons_succ,List.getElem?_cons_zero]
  refine sq2 (.string (mkB (L0))) ?_
  refine sq2p (w.heap.size) 1 ?_
  refine sq2p (w.heap.size) 3 ?_
  refine sq2 (.slice (some ⟨b,o,none⟩) nd dc) ?_ (fun w' hS => by have q0:=aa hS.1 3; go_simp)
  refine sq2i (i:Int) ?_
  refine sq2p b (o + i * 2) ?_
  refine sq2p b (o + i * 2) ?_
  refine sq2i (x1.1) ?_ (fun w' hS => by have q0:=hS.2 0 (.int .i64 x1.1) rfl; simp only [Nat.add_zero] at q0; go_simp)
  refine sq2p (w.heap.size) 1 ?_
  refine sq2p (w.heap.size) 3 ?_
  refine sq2 (.slice (some ⟨b,o,none⟩) nd dc) ?_ (fun w' hS => by have q0:=aa hS.1 3; go_simp)
  refine sq2i (i:Int) ?_
  refine sq2p b (o + i * 2) ?_
  refine sq2p b (o + i * 2 + 1) ?_
  refine sq2i (x1.2) ?_ (fun w' hS => by have q0:=hS.2 1 (.int .i64 x1.2) rfl; go_simp)
  refine aq (.slice (some ⟨wr.drew.heap.size,0,none⟩) 2 2) (wr.drew.alloc (.cells #[.int .i64 x1.1,.int .i64 x1.2] 3)) (by go_simp) ?_ ?_
  ·exact ⟨(Below.heap_alloc _ _ _ (ac hX0)).trans hX0,hE.alloc hbw _⟩
  have hq4:wr.drew.heap.size < (wr.drew.alloc (.cells #[.int .i64 x1.1,.int .i64 x1.2] 3)).heap.size:=by simp
  have hn4:(wr.drew.alloc (.cells #[.int .i64 x1.1,.int .i64 x1.2] 3)).heap[wr.drew.heap.size]? = some (.cells #[.int .i64 x1.1,.int .i64 x1.2] 3 (0,0)):=heap_alloc_new _ _
  have ha4:Below wr.drew.heap.size wr.drew (wr.drew.alloc (.cells #[.int .i64 x1.1,.int .i64 x1.2] 3)):=(Below.refl _ _).alloc (Nat.le_refl _) _
  obtain ⟨wb4,hwb4⟩:=gX (wr.drew.alloc (.cells #[.int .i64 x1.1,.int .i64 x1.2] 3))
  obtain ⟨g4,hg4⟩:=gX (wr.drew.heap.size)
  rw [<- hwb4] at hq4 hn4 ha4 ⊢
  rw [<- hg4] at hn4 ⊢
  replace hX0:=(ha4.block _ (ac hX0)).trans hX0
  replace hE:=hE.below hbw ha4
  replace hbw:=Nat.lt_of_lt_of_le hbw ha4.size
  replace HB:=qH (HB.out.trans (ha4.mono HB.out.size))
  clear hwb4 hg4 ha4 hq4
  simp only [Act.put,PutA,PutZ,PutS]
  refine ae 67 #[.slice (some ⟨g4,0,none⟩) 2 2] (by go_simp) ?_
  refine Calls.mono (C4.out _ g4 (fun j y hj => (aa hn4 j).trans (by rw [List.getElem?_toArray]; exact bj hj))) ?_
  rintro e wx4 ⟨rfl,hb4⟩
  replace hX0:=(hb4.block _ (ac hX0)).trans hX0
  replace hE:=hE.below hbw hb4
  clear hn4
  replace hbw:=Nat.lt_of_lt_of_le hbw hb4.size
  replace HB:=qH (HB.out.trans (hb4.mono HB.out.size))
  clear hb4
  refine ⟨_,rfl,⟨hX0,hE⟩,?_⟩
  simp only [Act.put,PutA,PutZ,PutS]
  refine sq2 (.string (mkB (Q1))) ?_
  refine sq2 (.string (mkB (Q1))) ?_
  refine ad ?_
  have HX:=qH hX0
  clear hX0 hE ka4 C4
  go_wp2_with fail
  go_roundw
  case rel => exact ⟨i + 1,by go_num,by omega,by rw [HT.out],HB,HX⟩
  simp [intOf]; omega
 have hii:i = nd:=by omega
 have hlt':¬ (i:Int) < (nd:Int):=by omega
 have etk:x.2.2.2.1.take i = x.2.2.2.1:=List.take_of_length_le (by rw [<- HNd.out,hii]; exact Nat.le_refl _)
 obtain ⟨S1,hS1⟩:=gX (S0++(x.2.2.2.1.take i).flatMap twoE)
 rw [<- hS1]
 rw [etk] at hS1
 have HS1:=qH hS1
 clear etk hS1 hii
 have cb4:=aa HX.out 4
 obtain ⟨P3,hP3⟩:=gX (encN (nl:Int))
 have C3:Hid (∀ (W:World),Calls Tryz.prog 16 #[.int .i64 (nl:Int)] W (StrE W P3)):=qH (fun W => by rw [hP3]; exact bm _ hnl2 W)
 obtain ⟨S2,hS2⟩:=gX (S1++P3)
 have hzz:(S2++x.2.2.2.2.flatMap layE).length≤1099511627776:=by
  have:=HZ.out
  rw [hS2,hP3,HS1.out]
  exact this
 have ka:=addL S1 P3 (by rw [hS2] at hzz; simp only [List.length_append] at hzz; omega)
 rw [<- hS2] at ka
 have HS2:Hid (S2 = S0++x.2.2.2.1.flatMap twoE++encN (nl:Int)):=qH (by rw [hS2,hP3,HS1.out])
 have HZ2:=qH hzz
 clear hP3 hS2 hzz
 go_wp2_with fail
 refine (C3.out _).mono ?_
 rintro e w9 ⟨rfl,hb9⟩
 replace HX:=qH ((hb9.block _ (ac HX.out)).trans HX.out)
 replace HB:=qH (HB.out.trans (hb9.mono HB.out.size))
 clear hb9 C3 cb4 cb
 have cb:=aa HX.out 4
 go_wp2_with fail
 clear cb ka
 go_loopw [3,5] (fun sv iv wr => ∃ i:Nat,iv = .int .i64 (i:Int)∧i≤nl∧sv = .string (mkB (S2++(x.2.2.2.2.take i).flatMap layE))∧Hid (Below w.heap.size w wr)∧Hid (wr.heap[w.heap.size]? = some (.cells #[.slice pA np pc,.int .i64 x.2.1,.int .i64 x.2.2.1,.slice dA nd dc,.slice lA nl lc] 40 (0,0)))) (fun _ iv _ => nl - (intOf iv).toNat)
 case atStart => exact ⟨0,rfl,Nat.zero_le _,by simp,HB,HX⟩
 clear HB HX
 obtain ⟨i,rfl,hin,rfl,HB,HX⟩:=hrel
 have cb:=aa HX.out 4
 by_cases hlt:i < nl
 ·have hlt':(i:Int) < (nl:Int):=by omega
  obtain ⟨x1,hx⟩:∃ y,x.2.2.2.2[i]? = some y:=⟨_,List.getElem?_eq_getElem (by rw [<- HNl.out]; exact hlt)⟩
  obtain ⟨b,o,vs,rfl,hgb,hbw0,hvl,hRx,hcs⟩:=HVl.out.at i x1 hx
  have hE:EltS b (o + i * 4) vs wr:=EltS.below (w:=w) hcs hbw0 HB.out
  have hbw:b < wr.heap.size:=Nat.lt_of_lt_of_le hbw0 HB.out.size
  have hO1:∀ u∈vs,u.oneCell' = true:=one_lay w G vs x1 hRx
  obtain ⟨v0,v1,v2,v3,rfl⟩:=len_4 hvl
  obtain ⟨he,hx1,hx2,hx3,_⟩:=hRx
  obtain ⟨rfl,rfl,rfl,rfl⟩:v0 = .int .i64 x1.1∧v1 = .int .i64 x1.2.1∧v2 = .int .i64 x1.2.2.1∧v3 = .bool x1.2.2.2:=by simpa using he
  have hxl:(S2++(x.2.2.2.2.take (i + 1)).flatMap layE).length≤1099511627776:=by
   have h2:=HZ2.out
   have h3:=aL layE x.2.2.2.2 (i + 1)
   rw [List.length_append] at h2 ⊢
   omega
  rw [aA layE hx] at hxl
  obtain ⟨L0,hL0⟩:=gX (S2++(x.2.2.2.2.take i).flatMap layE)
  obtain ⟨P5,hP5⟩:=gX ([x1.1,x1.2.1,x1.2.2.1].flatMap encN)
  have C5:Hid (∀ (W:World) (g:Nat),(∀ (j:Nat) (y:Int),[x1.1,x1.2.1,x1.2.2.1][j]? = some y→W.cell? ⟨g,j,none⟩ = some (.int .i64 y))→Calls Tryz.prog 67 #[.slice (some ⟨g,0,none⟩) 3 3] W (StrE W P5)):=qH (fun W g h => by rw [hP5]; exact nums67 [x1.1,x1.2.1,x1.2.2.1] g 3 W h (by simp only [List.mem_cons,List.not_mem_nil,or_false]; rintro m (rfl | rfl | rfl) <;> assumption) (by simp))
  obtain ⟨P6,hP6⟩:=gX (flagE x1.2.2.2)
  have C6:Hid (∀ (W:World),Calls Tryz.prog 84 #[.bool x1.2.2.2] W (StrE W P6)):=qH (fun W => by rw [hP6]; exact flg84 x1.2.2.2 W)
  have HT:Hid (L0++P5++P6 = S2++(x.2.2.2.2.take (i + 1)).flatMap layE):=qH (by
   rw [aA layE hx,<- List.append_assoc,<- hL0,hP5,hP6]
   simp [layE,seqE])
  have hll:(L0++P5++P6).length≤1099511627776:=by rw [HT.out,aA layE hx]; exact hxl
  obtain ⟨Q1,hQ1⟩:=gX (L0++P5)
  have ka5:=addL L0 P5 (by simp only [List.length_append] at hll ⊢; omega)
  rw [<- hQ1] at ka5
  obtain ⟨Q2,hQ2⟩:=gX (Q1++P6)
  have ka6:=addL Q1 P6 (by rw [hQ1]; simp only [List.length_append] at hll ⊢; omega)
  rw [<- hQ2] at ka6
  rw [<- hQ1,<- hQ2] at HT
  rw [<- hL0]
  clear hx hcs hgb hbw0 hL0 hP5 hP6 hQ1 hQ2 hll hxl
  have e0:=hE 0 (.int .i64 x1.1) rfl
  simp only [Nat.add_zero] at e0
  have e1:=hE 1 (.int .i64 x1.2.1) rfl
  have e2:=hE 2 (.int .i64 x1.2.2.1) rfl
  have e3:=hE 3 (.bool x1.2.2.2) rfl
  have h1:(#[.int .i64 x1.1,.int .i64 x1.2.1,.int .i64 x1.2.2.1,.bool x1.2.2.2]:Array Value).all (·.oneCell') = true:=by
   rw [Array.all_eq_true']
   intro u hu
   exact hO1 u (by simpa using hu)
  go_upto_region 11 with (refine wpList_store_row rfl 201 _ _ rfl wr.heap.size #[.int .i64 x1.1,.int .i64 x1.2.1,.int .i64 x1.2.2.1,.bool x1.2.2.2] rfl rfl 201 _ (heap_alloc_new _ _) size201 rfl h1 ?_; rw [ar])
  clear hE h1 hO1 e0 e1 e2 e3
  obtain ⟨q,hq⟩:=gX (wr.heap.size)
  obtain ⟨wy,hwy⟩:=gX (wr.alloc (.cells #[.int .i64 x1.1,.int .i64 x1.2.1,.int .i64 x1.2.2.1,.bool x1.2.2.2] 201))
  have hY:wy.drew.heap[q]? = some (.cells #[.int .i64 x1.1,.int .i64 x1.2.1,.int .i64 x1.2.2.1,.bool x1.2.2.2] 201 (0,0)):=by rw [hwy,hq]; exact heap_alloc_new wr _
  have hX0:wy.drew.heap[w.heap.size]? = some (.cells #[.slice pA np pc,.int .i64 x.2.1,.int .i64 x.2.2.1,.slice dA nd dc,.slice (some ⟨b,o,none⟩) nl lc] 40 (0,0)):=by rw [hwy]; exact (Below.heap_alloc wr _ _ (ac HX.out)).trans HX.out
  replace HB:Hid (Below w.heap.size w wy.drew):=qH (by rw [hwy]; exact (HB.out.alloc HB.out.size _).drew)
  rw [<- hwy]
  rw [<- hq]
  clear hq hwy cb HX
  refine ak (S:=fun w' => w'.heap[q]? = some (.cells #[.int .i64 x1.1,.int .i64 x1.2.1,.int .i64 x1.2.2.1,.bool x1.2.2.2] 201 (0,0))∧w'.heap[w.heap.size]? = some (.cells #[.slice pA np pc,.int .i64 x.2.1,.int .i64 x.2.2.1,.slice dA nd dc,.slice (some ⟨b,o,none⟩) nl lc] 40 (0,0))) [(true,0),(true,1),(true,2),(true,3),(true,4),(true,5),(true,6),(true,10),(true,11),(false,7),(false,8),(true,9),(false,12),(true,13),(true,14)] (by kernel_rfl) (by kernel_rfl) ⟨hY,hX0⟩ ?_
  simp only [aF,List.getElem?_cons_succ,List.getElem?_cons_zero]
  refine sq2 (.string (mkB (L0))) ?_
  refine sq2p q 0 ?_
  refine sq2i (x1.1) ?_ (fun w' hS => by have q0:=aa hS.1 0; go_simp)
  refine sq2p q 1 ?_
  refine sq2i (x1.2.1) ?_ (fun w' hS => by have q0:=aa hS.1 1; go_simp)
  refine sq2p q 2 ?_
  refine sq2i (x1.2.2.1) ?_ (fun w' hS => by have q0:=aa hS.1 2; go_simp)
  refine sq2p q 3 ?_
  refine sq2 (.bool x1.2.2.2) ?_ (fun w' hS => by have q0:=aa hS.1 3; go_simp)
  refine aq (.slice (some ⟨wy.drew.heap.size,0,none⟩) 3 3) (wy.drew.alloc (.cells #[.int .i64 x1.1,.int .i64 x1.2.1,.int .i64 x1.2.2.1] 3)) (by go_simp) ?_ ?_
  ·exact ⟨(Below.heap_alloc _ _ _ (ac hY)).trans hY,(Below.heap_alloc _ _ _ (ac hX0)).trans hX0⟩
  have hq5:wy.drew.heap.size < (wy.drew.alloc (.cells #[.int .i64 x1.1,.int .i64 x1.2.1,.int .i64 x1.2.2.1] 3)).heap.size:=by simp
  have hn5:(wy.drew.alloc (.cells #[.int .i64 x1.1,.int .i64 x1.2.1,.int .i64 x1.2.2.1] 3)).heap[wy.drew.heap.size]? = some (.cells #[.int .i64 x1.1,.int .i64 x1.2.1,.int .i64 x1.2.2.1] 3 (0,0)):=heap_alloc_new _ _
  have ha5:Below wy.drew.heap.size wy.drew (wy.drew.alloc (.cells #[.int .i64 x1.1,.int .i64 x1.2.1,.int .i64 x1.2.2.1] 3)):=(Below.refl _ _).alloc (Nat.le_refl _) _
  obtain ⟨wb5,hwb5⟩:=gX (wy.drew.alloc (.cells #[.int .i64 x1.1,.int .i64 x1.2.1,.int .i64 x1.2.2.1] 3))
  obtain ⟨g5,hg5⟩:=gX (wy.drew.heap.size)
  rw [<- hwb5] at hq5 hn5 ha5 ⊢
  rw [<- hg5] at hn5 ⊢
  replace hY:=(ha5.block _ (ac hY)).trans hY
  replace hX0:=(ha5.block _ (ac hX0)).trans hX0
  replace HB:=qH (HB.out.trans (ha5.mono HB.out.size))
  clear hwb5 hg5 ha5 hq5
  simp only [Act.put,PutA,PutZ,PutS]
  refine ae 67 #[.slice (some ⟨g5,0,none⟩) 3 3] (by go_simp) ?_
  refine Calls.mono (C5.out _ g5 (fun j y hj => (aa hn5 j).trans (by rw [List.getElem?_toArray]; exact bj hj))) ?_
  rintro e wx5 ⟨rfl,hb5⟩
  replace hY:=(hb5.block _ (ac hY)).trans hY
  replace hX0:=(hb5.block _ (ac hX0)).trans hX0
  clear hn5
  replace HB:=qH (HB.out.trans (hb5.mono HB.out.size))
  clear hb5
  refine ⟨_,rfl,⟨hY,hX0⟩,?_⟩
  simp only [Act.put,PutA,PutZ,PutS]
  refine sq2 (.string (mkB (Q1))) ?_
  refine ae 84 #[.bool x1.2.2.2] (by go_simp) ?_
  refine Calls.mono (C6.out _) ?_
  rintro e wx6 ⟨rfl,hb6⟩
  replace hY:=(hb6.block _ (ac hY)).trans hY
  replace hX0:=(hb6.block _ (ac hX0)).trans hX0
  replace HB:=qH (HB.out.trans (hb6.mono HB.out.size))
  clear hb6
  refine ⟨_,rfl,⟨hY,hX0⟩,?_⟩
  simp only [Act.put,PutA,PutZ,PutS]
  refine sq2 (.string (mkB (Q2))) ?_
  refine sq2 (.string (mkB (Q2))) ?_
  refine ad ?_
  have HX:=qH hX0
  clear hX0 hY ka5 C5 ka6 C6
  go_wp2_with fail
  go_roundw
  case rel => exact ⟨i + 1,by go_num,by omega,by rw [HT.out],HB,HX⟩
  simp [intOf]; omega
 have hii:i = nl:=by omega
 have hlt':¬ (i:Int) < (nl:Int):=by omega
 have etk:x.2.2.2.2.take i = x.2.2.2.2:=List.take_of_length_le (by rw [<- HNl.out,hii]; exact Nat.le_refl _)
 obtain ⟨S3,hS3⟩:=gX (S2++(x.2.2.2.2.take i).flatMap layE)
 rw [<- hS3]
 rw [etk] at hS3
 have HS3:=qH hS3
 clear etk hS3 hii
 have HE:Hid (S3 = RR):=qH (by rw [HS3.out,HS2.out,HRR.out])
 go_wp2_with fail
 go_ret
 exact ⟨by rw [<- HE.out]; rfl,HB.out⟩
def ItemsS {α:Type} (R:Rp α) (e:α→List Nat):Prop:=∀ (G:Nat→Prop) (w:World) (v:Value) (l:List α),Slv R 11 w G v l→(∀ b,G b→b < w.heap.size)→(aj e l).length≤1099511627776 →
 Calls Tryz.prog 25 #[v] w (StrE w (aj e l))
end Go.Proofs.YtmhhcfceikcfbaaGreat
