/- Walks: the law's bytes of settings. -/
import Derived.Test.YtmhhcfceikcfbaaGreatDcL4
import Derived.Test.YtmhhcfceikcfbaaGreatDcW7
namespace Go.Proofs.YtmhhcfceikcfbaaGreat
open Go.RowKit
set_option maxRecDepth 100000
set_option maxHeartbeats 4000000
theorem str_settings (G:Nat→Prop) (w:World) (vs:List Value) (x:Stg) (hR:stgP w G vs x) (hG:∀ b,G b→b < w.heap.size) (hz:(stgE x).length≤1099511627776):Calls Tryz.prog 86 #[.agg vs.toArray] w (StrE w (stgE x)):=by
 obtain ⟨w0,w1,w2,w3,rfl,hs,hl,hc,hv⟩:=hR
 obtain ⟨sA,sc,hsv,hs1,hs2⟩:=hs.shape
 subst hsv
 unfold maxLen at hs2
 obtain ⟨ns,hns⟩:=gX ((x.1).length)
 rw [<- hns] at hs
 rw [<- hns]
 have HNs:=qH hns
 have HVs:=qH hs
 obtain ⟨lA,lc,hlv,hl1,hl2⟩:=hl.shape
 subst hlv
 unfold maxLen at hl2
 obtain ⟨nl,hnl⟩:=gX ((x.2.1).length)
 rw [<- hnl] at hl
 rw [<- hnl]
 have HNl:=qH hnl
 have HVl:=qH hl
 obtain ⟨cA,cc,hcv,hc1,hc2⟩:=hc.shape
 subst hcv
 unfold maxLen at hc2
 obtain ⟨nc,hnc⟩:=gX ((x.2.2.1).length)
 rw [<- hnc] at hc
 rw [<- hnc]
 have HNc:=qH hnc
 have HVc:=qH hc
 obtain ⟨vA,vc,hvv,hv1,hv2⟩:=hv.shape
 subst hvv
 unfold maxLen at hv2
 obtain ⟨nv,hnv⟩:=gX ((x.2.2.2).length)
 rw [<- hnv] at hv
 rw [<- hnv]
 have HNv:=qH hnv
 have HVv:=qH hv
 have hE0:stgE x = encN (ns:Int)++x.1.flatMap styE++encN (nl:Int)++x.2.1.flatMap lstE++encN (nc:Int)++x.2.2.1.flatMap cmtE++encN (nv:Int)++x.2.2.2.flatMap vrE:=by
  rw [hns,hnl,hnc,hnv]
  simp [stgE,seqE,aj]
 obtain ⟨RR,hRR⟩:=gX (stgE x)
 rw [<- hRR]
 rw [hE0] at hz hRR
 have hbsn:ns≤9223372036854775807:=by omega
 have hIs:I64 (ns:Int):=by unfold I64; omega
 clear hs1 hs2
 have hbln:nl≤9223372036854775807:=by omega
 have hIl:I64 (nl:Int):=by unfold I64; omega
 clear hl1 hl2
 have hbcn:nc≤9223372036854775807:=by omega
 have hIc:I64 (nc:Int):=by unfold I64; omega
 clear hc1 hc2
 have hbvn:nv≤9223372036854775807:=by omega
 have hIv:I64 (nv:Int):=by unfold I64; omega
 clear hv1 hv2
 obtain ⟨S0,hS0⟩:=gX (encN (ns:Int))
 have C0:Hid (∀ (W:World),Calls Tryz.prog 16 #[.int .i64 (ns:Int)] W (StrE W S0)):=qH (fun W => by rw [hS0]; exact bm _ hIs W)
 rw [<- hS0] at hz hRR
 have HZ1:Hid ((S0++x.1.flatMap styE).length≤1099511627776):=qH (by simp only [List.length_append] at hz ⊢; omega)
 have HZ:=qH hz
 have HRR:=qH hRR
 have HX:Hid ((w.alloc (.cells #[.slice sA ns sc,.slice lA nl lc,.slice cA nc cc,.slice vA nv vc] 47)).heap[w.heap.size]? = some (.cells #[.slice sA ns sc,.slice lA nl lc,.slice cA nc cc,.slice vA nv vc] 47 (0,0))):=qH (heap_alloc_new w _)
 have HB:Hid (Below w.heap.size w (w.alloc (.cells #[.slice sA ns sc,.slice lA nl lc,.slice cA nc cc,.slice vA nv vc] 47))):=qH ((Below.refl _ _).alloc (Nat.le_refl _) _)
 clear hz hRR hE0 hS0 hs hl hc hv hns hnl hnc hnv
 go_enter Tryz.func86,Tryz.ntmps86
 go_upto_region 1 with fail
 obtain ⟨wy,hwy⟩:=gX (w.alloc (.cells #[.slice sA ns sc,.slice lA nl lc,.slice cA nc cc,.slice vA nv vc] 47))
 rw [<- hwy] at HX HB ⊢
 clear hwy
 have cb:=aa HX.out 0
 go_wp2_with fail
 refine (C0.out _).mono ?_
 rintro e w9 ⟨rfl,hb9⟩
 replace HX:=qH ((hb9.block _ (ac HX.out)).trans HX.out)
 replace HB:=qH (HB.out.trans (hb9.mono HB.out.size))
 clear hb9 C0 cb
 have cb:=aa HX.out 0
 go_wp2_with fail
 clear cb
 go_loopw [3,4] (fun sv iv wr => ∃ i:Nat,iv = .int .i64 (i:Int)∧i≤ns∧sv = .string (mkB (S0++(x.1.take i).flatMap styE))∧Hid (Below w.heap.size w wr)∧Hid (wr.heap[w.heap.size]? = some (.cells #[.slice sA ns sc,.slice lA nl lc,.slice cA nc cc,.slice vA nv vc] 47 (0,0)))) (fun _ iv _ => ns - (intOf iv).toNat)
 case atStart => exact ⟨0,rfl,Nat.zero_le _,by simp,HB,HX⟩
 clear HB HX
 obtain ⟨i,rfl,hin,rfl,HB,HX⟩:=hrel
 have cb:=aa HX.out 0
 by_cases hlt:i < ns
 ·have hlt':(i:Int) < (ns:Int):=by omega
  obtain ⟨x1,hx⟩:∃ y,x.1[i]? = some y:=⟨_,List.getElem?_eq_getElem (by rw [<- HNs.out]; exact hlt)⟩
  obtain ⟨b,o,vs,rfl,hgb,hbw0,hvl,hRx,hcs⟩:=HVs.out.at i x1 hx
  have hE:EltS b (o + i * 6) vs wr:=EltS.below (w:=w) hcs hbw0 HB.out
  have hbw:b < wr.heap.size:=Nat.lt_of_lt_of_le hbw0 HB.out.size
  have hO1:∀ u∈vs,u.oneCell' = true:=one_sty w G vs x1 hRx
  obtain ⟨pv,rfl,⟨hx1,hx2,hx3,hx4,hx5⟩,hp⟩:=hRx
  have hxl:(S0++(x.1.take (i + 1)).flatMap styE).length≤1099511627776:=by
   have h2:=HZ1.out
   have h3:=aL styE x.1 (i + 1)
   rw [List.length_append] at h2 ⊢
   omega
  rw [aA styE hx] at hxl
  obtain ⟨L0,hL0⟩:=gX (S0++(x.1.take i).flatMap styE)
  obtain ⟨P1,hP1⟩:=gX ([x1.1,x1.2.1].flatMap encN)
  have C1:Hid (∀ (W:World) (g:Nat),(∀ (j:Nat) (y:Int),[x1.1,x1.2.1][j]? = some y→W.cell? ⟨g,j,none⟩ = some (.int .i64 y))→Calls Tryz.prog 67 #[.slice (some ⟨g,0,none⟩) 2 2] W (StrE W P1)):=qH (fun W g h => by rw [hP1]; exact nums67 [x1.1,x1.2.1] g 2 W h (by simp only [List.mem_cons,List.not_mem_nil,or_false]; rintro m (rfl | rfl) <;> assumption) (by simp))
  obtain ⟨P2,hP2⟩:=gX (strE x1.2.2.1)
  have C2:Hid (∀ (W:World),Calls Tryz.prog 68 #[.string x1.2.2.1] W (StrE W P2)):=qH (fun W => by rw [hP2]; exact txt68 _ W (by have:=hxl; simp only [styE,seqE,strE,textE,List.length_append,ap] at this; omega))
  obtain ⟨P3,hP3⟩:=gX ([x1.2.2.2.1,x1.2.2.2.2.1].flatMap encN)
  have C3:Hid (∀ (W:World) (g:Nat),(∀ (j:Nat) (y:Int),[x1.2.2.2.1,x1.2.2.2.2.1][j]? = some y→W.cell? ⟨g,j,none⟩ = some (.int .i64 y))→Calls Tryz.prog 67 #[.slice (some ⟨g,0,none⟩) 2 2] W (StrE W P3)):=qH (fun W g h => by rw [hP3]; exact nums67 [x1.2.2.2.1,x1.2.2.2.2.1] g 2 W h (by simp only [List.mem_cons,List.not_mem_nil,or_false]; rintro m (rfl | rfl) <;> assumption) (by simp))
  obtain ⟨P4,hP4⟩:=gX (aj twoE x1.2.2.2.2.2)
  have C4:Hid (∀ (W:World),Below w.heap.size w W→Calls Tryz.prog 143 #[pv] W (StrE W P4)):=qH (fun W hW => by rw [hP4]; exact str_props G W pv _ (hp.below aH hG hW) (fun b h => Nat.lt_of_lt_of_le (hG b h) hW.size) (by have:=hxl; simp only [styE,seqE,List.length_append] at this; omega))
  have HT:Hid (L0++P1++P2++P3++P4 = S0++(x.1.take (i + 1)).flatMap styE):=qH (by
   rw [aA styE hx,<- List.append_assoc,<- hL0,hP1,hP2,hP3,hP4]
   simp [styE,seqE])
  have hll:(L0++P1++P2++P3++P4).length≤1099511627776:=by rw [HT.out,aA styE hx]; exact hxl
  obtain ⟨Q1,hQ1⟩:=gX (L0++P1)
  have ka1:=addL L0 P1 (by simp only [List.length_append] at hll ⊢; omega)
  rw [<- hQ1] at ka1
  obtain ⟨Q2,hQ2⟩:=gX (Q1++P2)
  have ka2:=addL Q1 P2 (by rw [hQ1]; simp only [List.length_append] at hll ⊢; omega)
  rw [<- hQ2] at ka2
  obtain ⟨Q3,hQ3⟩:=gX (Q2++P3)
  have ka3:=addL Q2 P3 (by rw [hQ2,hQ1]; simp only [List.length_append] at hll ⊢; omega)
  rw [<- hQ3] at ka3
  obtain ⟨Q4,hQ4⟩:=gX (Q3++P4)
  have ka4:=addL Q3 P4 (by rw [hQ3,hQ2,hQ1]; simp only [List.length_append] at hll ⊢; omega)
  rw [<- hQ4] at ka4
  rw [<- hQ1,<- hQ2,<- hQ3,<- hQ4] at HT
  rw [<- hL0]
  clear hx hcs hgb hbw0 hL0 hP1 hP2 hP3 hP4 hQ1 hQ2 hQ3 hQ4 hll hxl
  have e0:=hE 0 (.int .i64 x1.1) rfl
  simp only [Nat.add_zero] at e0
  have e1:=hE 1 (.int .i64 x1.2.1) rfl
  have e2:=hE 2 (.string x1.2.2.1) rfl
  have e3:=hE 3 (.int .i64 x1.2.2.2.1) rfl
  have e4:=hE 4 (.int .i64 x1.2.2.2.2.1) rfl
  have e5:=hE 5 (pv) rfl
  have h1:(#[.int .i64 x1.1,.int .i64 x1.2.1,.string x1.2.2.1,.int .i64 x1.2.2.2.1,.int .i64 x1.2.2.2.2.1,pv]:Array Value).all (·.oneCell') = true:=by
   rw [Array.all_eq_true']
   intro u hu
   exact hO1 u (by simpa using hu)
  go_upto_region 6 with (refine wpList_store_row rfl 107 _ _ rfl wr.heap.size #[.int .i64 x1.1,.int .i64 x1.2.1,.string x1.2.2.1,.int .i64 x1.2.2.2.1,.int .i64 x1.2.2.2.2.1,pv] rfl rfl 107 _ (heap_alloc_new _ _) size107 rfl h1 ?_; rw [ar])
  clear hE h1 hO1 e0 e1 e2 e3 e4 e5
  obtain ⟨q,hq⟩:=gX (wr.heap.size)
  obtain ⟨wy,hwy⟩:=gX (wr.alloc (.cells #[.int .i64 x1.1,.int .i64 x1.2.1,.string x1.2.2.1,.int .i64 x1.2.2.2.1,.int .i64 x1.2.2.2.2.1,pv] 107))
  have hY:wy.drew.heap[q]? = some (.cells #[.int .i64 x1.1,.int .i64 x1.2.1,.string x1.2.2.1,.int .i64 x1.2.2.2.1,.int .i64 x1.2.2.2.2.1,pv] 107 (0,0)):=by rw [hwy,hq]; exact heap_alloc_new wr _
  have hX0:wy.drew.heap[w.heap.size]? = some (.cells #[.slice (some ⟨b,o,none⟩) ns sc,.slice lA nl lc,.slice cA nc cc,.slice vA nv vc] 47 (0,0)):=by rw [hwy]; exact (Below.heap_alloc wr _ _ (ac HX.out)).trans HX.out
  replace HB:Hid (Below w.heap.size w wy.drew):=qH (by rw [hwy]; exact (HB.out.alloc HB.out.size _).drew)
  rw [<- hwy]
  rw [<- hq]
  clear hq hwy cb HX
  refine wp_region_tr (S:=fun w' => w'.heap[q]? = some (.cells #[.int .i64 x1.1,.int .i64 x1.2.1,.string x1.2.2.1,.int .i64 x1.2.2.2.1,.int .i64 x1.2.2.2.2.1,pv] 107 (0,0))∧w'.heap[w.heap.size]? = some (.cells #[.slice (some ⟨b,o,none⟩) ns sc,.slice lA nl lc,.slice cA nc cc,.slice vA nv vc] 47 (0,0))) (.ld 0 (.ld 1 (.ld 2 (.ld 3 (.ld 4 (.ld 8 (.ld 9 (.ld 12 (.ld 13 (.ld 14 (.ld 15 (.ld 19 (.ld 20 (.br 5 (.br 6 (.ld 7 (.br 10 (.ld 11 (.run 16 (.run 17 (.ld 18 (.run 21 (.ld 22 (.ld 23 (.done)))))))) 16 (.run 10 (.ld 11 (.run 17 (.ld 18 (.run 21 (.ld 22 (.ld 23 (.done)))))))))) 16 (.run 6 (.ld 7 (.run 10 (.ld 11 (.run 17 (.ld 18 (.run 21 (.ld 22 (.ld 23 (.done))))))))))) 16 (.run 5 (.run 6 (.ld 7 (.run 10 (.ld 11 (.run 17 (.ld 18 (.run 21 (.ld 22 (.ld 23 (.done))))))))))))))))))))))))) (by kernel_rfl) (by kernel_rfl) ⟨hY,hX0⟩ ?_
  simp only [Tr.pick,List.getElem?_cons_succ,List.getElem?_cons_zero]
  refine tr1 (.string (mkB (L0))) ?_
  refine tr1p q 0 ?_
  refine tr1i (x1.1) ?_ (fun w' hS => by have q0:=aa hS.1 0; go_simp)
  refine tr1p q 1 ?_
  refine tr1i (x1.2.1) ?_ (fun w' hS => by have q0:=aa hS.1 1; go_simp)
  refine tr1p q 2 ?_
  refine tr1 (.string x1.2.2.1) ?_ (fun w' hS => by have q0:=aa hS.1 2; go_simp)
  refine tr1p q 3 ?_
  refine tr1i (x1.2.2.2.1) ?_ (fun w' hS => by have q0:=aa hS.1 3; go_simp)
  refine tr1p q 4 ?_
  refine tr1i (x1.2.2.2.2.1) ?_ (fun w' hS => by have q0:=aa hS.1 4; go_simp)
  refine tr1p q 5 ?_
  refine tr1 (pv) ?_ (fun w' hS => by have q0:=aa hS.1 5; go_simp)
  refine tr_br ?_ ?_
  ·refine aq (.slice (some ⟨wy.drew.heap.size,0,none⟩) 2 2) (wy.drew.alloc (.cells #[.int .i64 x1.1,.int .i64 x1.2.1] 3)) (by go_simp) ?_ ?_
   ·exact ⟨(Below.heap_alloc _ _ _ (ac hY)).trans hY,(Below.heap_alloc _ _ _ (ac hX0)).trans hX0⟩
   have hq1:wy.drew.heap.size < (wy.drew.alloc (.cells #[.int .i64 x1.1,.int .i64 x1.2.1] 3)).heap.size:=by simp
   have hn1:(wy.drew.alloc (.cells #[.int .i64 x1.1,.int .i64 x1.2.1] 3)).heap[wy.drew.heap.size]? = some (.cells #[.int .i64 x1.1,.int .i64 x1.2.1] 3 (0,0)):=heap_alloc_new _ _
   have ha1:Below wy.drew.heap.size wy.drew (wy.drew.alloc (.cells #[.int .i64 x1.1,.int .i64 x1.2.1] 3)):=(Below.refl _ _).alloc (Nat.le_refl _) _
   obtain ⟨wb1,hwb1⟩:=gX (wy.drew.alloc (.cells #[.int .i64 x1.1,.int .i64 x1.2.1] 3))
   obtain ⟨g1,hg1⟩:=gX (wy.drew.heap.size)
   rw [<- hwb1] at hq1 hn1 ha1 ⊢
   rw [<- hg1] at hn1 ⊢
   replace hY:=(ha1.block _ (ac hY)).trans hY
   replace hX0:=(ha1.block _ (ac hX0)).trans hX0
   replace HB:=qH (HB.out.trans (ha1.mono HB.out.size))
   clear hwb1 hg1 ha1 hq1
   refine ad ?_
   simp only [Act.put,PutA,PutZ,PutS]
   refine tr_br ?_ ?_
   ·refine ae 67 #[.slice (some ⟨g1,0,none⟩) 2 2] (by go_simp) ?_
    refine Calls.mono (C1.out _ g1 (fun j y hj => (aa hn1 j).trans (by rw [List.getElem?_toArray]; exact bj hj))) ?_
    rintro e wx1 ⟨rfl,hb1⟩
    replace hY:=(hb1.block _ (ac hY)).trans hY
    replace hX0:=(hb1.block _ (ac hX0)).trans hX0
    clear hn1
    replace HB:=qH (HB.out.trans (hb1.mono HB.out.size))
    clear hb1
    refine ⟨_,rfl,⟨hY,hX0⟩,?_⟩
    refine ad ?_
    simp only [Act.put,PutA,PutZ,PutS]
    refine tr1 (.string (mkB (Q1))) ?_
    refine tr_br ?_ ?_
    ·refine ae 68 #[.string x1.2.2.1] (by go_simp) ?_
     refine Calls.mono (C2.out _) ?_
     rintro e wx2 ⟨rfl,hb2⟩
     replace hY:=(hb2.block _ (ac hY)).trans hY
     replace hX0:=(hb2.block _ (ac hX0)).trans hX0
     replace HB:=qH (HB.out.trans (hb2.mono HB.out.size))
     clear hb2
     refine ⟨_,rfl,⟨hY,hX0⟩,?_⟩
     refine ad ?_
     simp only [Act.put,PutA,PutZ,PutS]
     refine tr1 (.string (mkB (Q2))) ?_
     refine bs ?_
     refine aq (.slice (some ⟨wx2.heap.size,0,none⟩) 2 2) (wx2.alloc (.cells #[.int .i64 x1.2.2.2.1,.int .i64 x1.2.2.2.2.1] 3)) (by go_simp) ?_ ?_
     ·exact ⟨(Below.heap_alloc _ _ _ (ac hY)).trans hY,(Below.heap_alloc _ _ _ (ac hX0)).trans hX0⟩
     have hq3:wx2.heap.size < (wx2.alloc (.cells #[.int .i64 x1.2.2.2.1,.int .i64 x1.2.2.2.2.1] 3)).heap.size:=by simp
     have hn3:(wx2.alloc (.cells #[.int .i64 x1.2.2.2.1,.int .i64 x1.2.2.2.2.1] 3)).heap[wx2.heap.size]? = some (.cells #[.int .i64 x1.2.2.2.1,.int .i64 x1.2.2.2.2.1] 3 (0,0)):=heap_alloc_new _ _
     have ha3:Below wx2.heap.size wx2 (wx2.alloc (.cells #[.int .i64 x1.2.2.2.1,.int .i64 x1.2.2.2.2.1] 3)):=(Below.refl _ _).alloc (Nat.le_refl _) _
     obtain ⟨wb3,hwb3⟩:=gX (wx2.alloc (.cells #[.int .i64 x1.2.2.2.1,.int .i64 x1.2.2.2.2.1] 3))
     obtain ⟨g3,hg3⟩:=gX (wx2.heap.size)
     rw [<- hwb3] at hq3 hn3 ha3 ⊢
     rw [<- hg3] at hn3 ⊢
     replace hY:=(ha3.block _ (ac hY)).trans hY
     replace hX0:=(ha3.block _ (ac hX0)).trans hX0
     replace HB:=qH (HB.out.trans (ha3.mono HB.out.size))
     clear hwb3 hg3 ha3 hq3
     refine ad ?_
     simp only [Act.put,PutA,PutZ,PutS]
     refine bs ?_
     refine ae 67 #[.slice (some ⟨g3,0,none⟩) 2 2] (by go_simp) ?_
     refine Calls.mono (C3.out _ g3 (fun j y hj => (aa hn3 j).trans (by rw [List.getElem?_toArray]; exact bj hj))) ?_
     rintro e wx3 ⟨rfl,hb3⟩
     replace hY:=(hb3.block _ (ac hY)).trans hY
     replace hX0:=(hb3.block _ (ac hX0)).trans hX0
     clear hn3
     replace HB:=qH (HB.out.trans (hb3.mono HB.out.size))
     clear hb3
     refine ⟨_,rfl,⟨hY,hX0⟩,?_⟩
     refine ad ?_
     simp only [Act.put,PutA,PutZ,PutS]
     refine tr1 (.string (mkB (Q3))) ?_
     refine bs ?_
     refine ae 143 #[pv] (by go_simp) ?_
     refine Calls.mono (C4.out _ HB.out) ?_
     rintro e wx4 ⟨rfl,hb4⟩
     replace hY:=(hb4.block _ (ac hY)).trans hY
     replace hX0:=(hb4.block _ (ac hX0)).trans hX0
     replace HB:=qH (HB.out.trans (hb4.mono HB.out.size))
     clear hb4
     refine ⟨_,rfl,⟨hY,hX0⟩,?_⟩
     refine ad ?_
     simp only [Act.put,PutA,PutZ,PutS]
     refine tr1 (.string (mkB (Q4))) ?_
     refine tr1 (.string (mkB (Q4))) ?_
     refine tr_done ?_
     have HX:=qH hX0
     clear hX0 hY ka1 C1 ka2 C2 ka3 C3 ka4 C4
     go_wp2_with fail
     go_roundw
     case rel => exact ⟨i + 1,by go_num,by omega,by rw [HT.out],HB,HX⟩
     simp [intOf]; omega
    refine aq (.slice (some ⟨wx1.heap.size,0,none⟩) 2 2) (wx1.alloc (.cells #[.int .i64 x1.2.2.2.1,.int .i64 x1.2.2.2.2.1] 3)) (by go_simp) ?_ ?_
    ·exact ⟨(Below.heap_alloc _ _ _ (ac hY)).trans hY,(Below.heap_alloc _ _ _ (ac hX0)).trans hX0⟩
    have hq3:wx1.heap.size < (wx1.alloc (.cells #[.int .i64 x1.2.2.2.1,.int .i64 x1.2.2.2.2.1] 3)).heap.size:=by simp
    have hn3:(wx1.alloc (.cells #[.int .i64 x1.2.2.2.1,.int .i64 x1.2.2.2.2.1] 3)).heap[wx1.heap.size]? = some (.cells #[.int .i64 x1.2.2.2.1,.int .i64 x1.2.2.2.2.1] 3 (0,0)):=heap_alloc_new _ _
    have ha3:Below wx1.heap.size wx1 (wx1.alloc (.cells #[.int .i64 x1.2.2.2.1,.int .i64 x1.2.2.2.2.1] 3)):=(Below.refl _ _).alloc (Nat.le_refl _) _
    obtain ⟨wb3,hwb3⟩:=gX (wx1.alloc (.cells #[.int .i64 x1.2.2.2.1,.int .i64 x1.2.2.2.2.1] 3))
    obtain ⟨g3,hg3⟩:=gX (wx1.heap.size)
    rw [<- hwb3] at hq3 hn3 ha3 ⊢
    rw [<- hg3] at hn3 ⊢
    replace hY:=(ha3.block _ (ac hY)).trans hY
    replace hX0:=(ha3.block _ (ac hX0)).trans hX0
    replace HB:=qH (HB.out.trans (ha3.mono HB.out.size))
    clear hwb3 hg3 ha3 hq3
    refine ad ?_
    simp only [Act.put,PutA,PutZ,PutS]
    refine bs ?_
    refine ae 68 #[.string x1.2.2.1] (by go_simp) ?_
    refine Calls.mono (C2.out _) ?_
    rintro e wx2 ⟨rfl,hb2⟩
    replace hY:=(hb2.block _ (ac hY)).trans hY
    replace hX0:=(hb2.block _ (ac hX0)).trans hX0
    replace hn3:=(hb2.block _ (ac hn3)).trans hn3
    replace HB:=qH (HB.out.trans (hb2.mono HB.out.size))
    clear hb2
    refine ⟨_,rfl,⟨hY,hX0⟩,?_⟩
    refine ad ?_
    simp only [Act.put,PutA,PutZ,PutS]
    refine tr1 (.string (mkB (Q2))) ?_
    refine bs ?_
    refine ae 67 #[.slice (some ⟨g3,0,none⟩) 2 2] (by go_simp) ?_
    refine Calls.mono (C3.out _ g3 (fun j y hj => (aa hn3 j).trans (by rw [List.getElem?_toArray]; exact bj hj))) ?_
    rintro e wx3 ⟨rfl,hb3⟩
    replace hY:=(hb3.block _ (ac hY)).trans hY
    replace hX0:=(hb3.block _ (ac hX0)).trans hX0
    clear hn3
    replace HB:=qH (HB.out.trans (hb3.mono HB.out.size))
    clear hb3
    refine ⟨_,rfl,⟨hY,hX0⟩,?_⟩
    refine ad ?_
    simp only [Act.put,PutA,PutZ,PutS]
    refine tr1 (.string (mkB (Q3))) ?_
    refine bs ?_
    refine ae 143 #[pv] (by go_simp) ?_
    refine Calls.mono (C4.out _ HB.out) ?_
    rintro e wx4 ⟨rfl,hb4⟩
    replace hY:=(hb4.block _ (ac hY)).trans hY
    replace hX0:=(hb4.block _ (ac hX0)).trans hX0
    replace HB:=qH (HB.out.trans (hb4.mono HB.out.size))
    clear hb4
    refine ⟨_,rfl,⟨hY,hX0⟩,?_⟩
    refine ad ?_
    simp only [Act.put,PutA,PutZ,PutS]
    refine tr1 (.string (mkB (Q4))) ?_
    refine tr1 (.string (mkB (Q4))) ?_
    refine tr_done ?_
    have HX:=qH hX0
    clear hX0 hY ka1 C1 ka2 C2 ka3 C3 ka4 C4
    go_wp2_with fail
    go_roundw
    case rel => exact ⟨i + 1,by go_num,by omega,by rw [HT.out],HB,HX⟩
    simp [intOf]; omega
   refine aq (.slice (some ⟨wb1.heap.size,0,none⟩) 2 2) (wb1.alloc (.cells #[.int .i64 x1.2.2.2.1,.int .i64 x1.2.2.2.2.1] 3)) (by go_simp) ?_ ?_
   ·exact ⟨(Below.heap_alloc _ _ _ (ac hY)).trans hY,(Below.heap_alloc _ _ _ (ac hX0)).trans hX0⟩
   have hq3:wb1.heap.size < (wb1.alloc (.cells #[.int .i64 x1.2.2.2.1,.int .i64 x1.2.2.2.2.1] 3)).heap.size:=by simp
   have hn3:(wb1.alloc (.cells #[.int .i64 x1.2.2.2.1,.int .i64 x1.2.2.2.2.1] 3)).heap[wb1.heap.size]? = some (.cells #[.int .i64 x1.2.2.2.1,.int .i64 x1.2.2.2.2.1] 3 (0,0)):=heap_alloc_new _ _
   have ha3:Below wb1.heap.size wb1 (wb1.alloc (.cells #[.int .i64 x1.2.2.2.1,.int .i64 x1.2.2.2.2.1] 3)):=(Below.refl _ _).alloc (Nat.le_refl _) _
   obtain ⟨wb3,hwb3⟩:=gX (wb1.alloc (.cells #[.int .i64 x1.2.2.2.1,.int .i64 x1.2.2.2.2.1] 3))
   obtain ⟨g3,hg3⟩:=gX (wb1.heap.size)
   rw [<- hwb3] at hq3 hn3 ha3 ⊢
   rw [<- hg3] at hn3 ⊢
   replace hY:=(ha3.block _ (ac hY)).trans hY
   replace hX0:=(ha3.block _ (ac hX0)).trans hX0
   replace hn1:=(ha3.block _ (ac hn1)).trans hn1
   replace HB:=qH (HB.out.trans (ha3.mono HB.out.size))
   clear hwb3 hg3 ha3 hq3
   refine ad ?_
   simp only [Act.put,PutA,PutZ,PutS]
   refine bs ?_
   refine ae 67 #[.slice (some ⟨g1,0,none⟩) 2 2] (by go_simp) ?_
   refine Calls.mono (C1.out _ g1 (fun j y hj => (aa hn1 j).trans (by rw [List.getElem?_toArray]; exact bj hj))) ?_
   rintro e wx1 ⟨rfl,hb1⟩
   replace hY:=(hb1.block _ (ac hY)).trans hY
   replace hX0:=(hb1.block _ (ac hX0)).trans hX0
   clear hn1
   replace hn3:=(hb1.block _ (ac hn3)).trans hn3
   replace HB:=qH (HB.out.trans (hb1.mono HB.out.size))
   clear hb1
   refine ⟨_,rfl,⟨hY,hX0⟩,?_⟩
   refine ad ?_
   simp only [Act.put,PutA,PutZ,PutS]
   refine tr1 (.string (mkB (Q1))) ?_
   refine bs ?_
   refine ae 68 #[.string x1.2.2.1] (by go_simp) ?_
   refine Calls.mono (C2.out _) ?_
   rintro e wx2 ⟨rfl,hb2⟩
   replace hY:=(hb2.block _ (ac hY)).trans hY
   replace hX0:=(hb2.block _ (ac hX0)).trans hX0
   replace hn3:=(hb2.block _ (ac hn3)).trans hn3
   replace HB:=qH (HB.out.trans (hb2.mono HB.out.size))
   clear hb2
   refine ⟨_,rfl,⟨hY,hX0⟩,?_⟩
   refine ad ?_
   simp only [Act.put,PutA,PutZ,PutS]
   refine tr1 (.string (mkB (Q2))) ?_
   refine bs ?_
   refine ae 67 #[.slice (some ⟨g3,0,none⟩) 2 2] (by go_simp) ?_
   refine Calls.mono (C3.out _ g3 (fun j y hj => (aa hn3 j).trans (by rw [List.getElem?_toArray]; exact bj hj))) ?_
   rintro e wx3 ⟨rfl,hb3⟩
   replace hY:=(hb3.block _ (ac hY)).trans hY
   replace hX0:=(hb3.block _ (ac hX0)).trans hX0
   clear hn3
   replace HB:=qH (HB.out.trans (hb3.mono HB.out.size))
   clear hb3
   refine ⟨_,rfl,⟨hY,hX0⟩,?_⟩
   refine ad ?_
   simp only [Act.put,PutA,PutZ,PutS]
   refine tr1 (.string (mkB (Q3))) ?_
   refine bs ?_
   refine ae 143 #[pv] (by go_simp) ?_
   refine Calls.mono (C4.out _ HB.out) ?_
   rintro e wx4 ⟨rfl,hb4⟩
   replace hY:=(hb4.block _ (ac hY)).trans hY
   replace hX0:=(hb4.block _ (ac hX0)).trans hX0
   replace HB:=qH (HB.out.trans (hb4.mono HB.out.size))
   clear hb4
   refine ⟨_,rfl,⟨hY,hX0⟩,?_⟩
   refine ad ?_
   simp only [Act.put,PutA,PutZ,PutS]
   refine tr1 (.string (mkB (Q4))) ?_
   refine tr1 (.string (mkB (Q4))) ?_
   refine tr_done ?_
   have HX:=qH hX0
   clear hX0 hY ka1 C1 ka2 C2 ka3 C3 ka4 C4
   go_wp2_with fail
   go_roundw
   case rel => exact ⟨i + 1,by go_num,by omega,by rw [HT.out],HB,HX⟩
   simp [intOf]; omega
  refine aq (.slice (some ⟨wy.drew.heap.size,0,none⟩) 2 2) (wy.drew.alloc (.cells #[.int .i64 x1.2.2.2.1,.int .i64 x1.2.2.2.2.1] 3)) (by go_simp) ?_ ?_
  ·exact ⟨(Below.heap_alloc _ _ _ (ac hY)).trans hY,(Below.heap_alloc _ _ _ (ac hX0)).trans hX0⟩
  have hq3:wy.drew.heap.size < (wy.drew.alloc (.cells #[.int .i64 x1.2.2.2.1,.int .i64 x1.2.2.2.2.1] 3)).heap.size:=by simp
  have hn3:(wy.drew.alloc (.cells #[.int .i64 x1.2.2.2.1,.int .i64 x1.2.2.2.2.1] 3)).heap[wy.drew.heap.size]? = some (.cells #[.int .i64 x1.2.2.2.1,.int .i64 x1.2.2.2.2.1] 3 (0,0)):=heap_alloc_new _ _
  have ha3:Below wy.drew.heap.size wy.drew (wy.drew.alloc (.cells #[.int .i64 x1.2.2.2.1,.int .i64 x1.2.2.2.2.1] 3)):=(Below.refl _ _).alloc (Nat.le_refl _) _
  obtain ⟨wb3,hwb3⟩:=gX (wy.drew.alloc (.cells #[.int .i64 x1.2.2.2.1,.int .i64 x1.2.2.2.2.1] 3))
  obtain ⟨g3,hg3⟩:=gX (wy.drew.heap.size)
  rw [<- hwb3] at hq3 hn3 ha3 ⊢
  rw [<- hg3] at hn3 ⊢
  replace hY:=(ha3.block _ (ac hY)).trans hY
  replace hX0:=(ha3.block _ (ac hX0)).trans hX0
  replace HB:=qH (HB.out.trans (ha3.mono HB.out.size))
  clear hwb3 hg3 ha3 hq3
  refine ad ?_
  simp only [Act.put,PutA,PutZ,PutS]
  refine bs ?_
  refine aq (.slice (some ⟨wb3.heap.size,0,none⟩) 2 2) (wb3.alloc (.cells #[.int .i64 x1.1,.int .i64 x1.2.1] 3)) (by go_simp) ?_ ?_
  ·exact ⟨(Below.heap_alloc _ _ _ (ac hY)).trans hY,(Below.heap_alloc _ _ _ (ac hX0)).trans hX0⟩
  have hq1:wb3.heap.size < (wb3.alloc (.cells #[.int .i64 x1.1,.int .i64 x1.2.1] 3)).heap.size:=by simp
  have hn1:(wb3.alloc (.cells #[.int .i64 x1.1,.int .i64 x1.2.1] 3)).heap[wb3.heap.size]? = some (.cells #[.int .i64 x1.1,.int .i64 x1.2.1] 3 (0,0)):=heap_alloc_new _ _
  have ha1:Below wb3.heap.size wb3 (wb3.alloc (.cells #[.int .i64 x1.1,.int .i64 x1.2.1] 3)):=(Below.refl _ _).alloc (Nat.le_refl _) _
  obtain ⟨wb1,hwb1⟩:=gX (wb3.alloc (.cells #[.int .i64 x1.1,.int .i64 x1.2.1] 3))
  obtain ⟨g1,hg1⟩:=gX (wb3.heap.size)
  rw [<- hwb1] at hq1 hn1 ha1 ⊢
  rw [<- hg1] at hn1 ⊢
  replace hY:=(ha1.block _ (ac hY)).trans hY
  replace hX0:=(ha1.block _ (ac hX0)).trans hX0
  replace hn3:=(ha1.block _ (ac hn3)).trans hn3
  replace HB:=qH (HB.out.trans (ha1.mono HB.out.size))
  clear hwb1 hg1 ha1 hq1
  refine ad ?_
  simp only [Act.put,PutA,PutZ,PutS]
  refine bs ?_
  refine ae 67 #[.slice (some ⟨g1,0,none⟩) 2 2] (by go_simp) ?_
  refine Calls.mono (C1.out _ g1 (fun j y hj => (aa hn1 j).trans (by rw [List.getElem?_toArray]; exact bj hj))) ?_
  rintro e wx1 ⟨rfl,hb1⟩
  replace hY:=(hb1.block _ (ac hY)).trans hY
  replace hX0:=(hb1.block _ (ac hX0)).trans hX0
  clear hn1
  replace hn3:=(hb1.block _ (ac hn3)).trans hn3
  replace HB:=qH (HB.out.trans (hb1.mono HB.out.size))
  clear hb1
  refine ⟨_,rfl,⟨hY,hX0⟩,?_⟩
  refine ad ?_
  simp only [Act.put,PutA,PutZ,PutS]
  refine tr1 (.string (mkB (Q1))) ?_
  refine bs ?_
  refine ae 68 #[.string x1.2.2.1] (by go_simp) ?_
  refine Calls.mono (C2.out _) ?_
  rintro e wx2 ⟨rfl,hb2⟩
  replace hY:=(hb2.block _ (ac hY)).trans hY
  replace hX0:=(hb2.block _ (ac hX0)).trans hX0
  replace hn3:=(hb2.block _ (ac hn3)).trans hn3
  replace HB:=qH (HB.out.trans (hb2.mono HB.out.size))
  clear hb2
  refine ⟨_,rfl,⟨hY,hX0⟩,?_⟩
  refine ad ?_
  simp only [Act.put,PutA,PutZ,PutS]
  refine tr1 (.string (mkB (Q2))) ?_
  refine bs ?_
  refine ae 67 #[.slice (some ⟨g3,0,none⟩) 2 2] (by go_simp) ?_
  refine Calls.mono (C3.out _ g3 (fun j y hj => (aa hn3 j).trans (by rw [List.getElem?_toArray]; exact bj hj))) ?_
  rintro e wx3 ⟨rfl,hb3⟩
  replace hY:=(hb3.block _ (ac hY)).trans hY
  replace hX0:=(hb3.block _ (ac hX0)).trans hX0
  clear hn3
  replace HB:=qH (HB.out.trans (hb3.mono HB.out.size))
  clear hb3
  refine ⟨_,rfl,⟨hY,hX0⟩,?_⟩
  refine ad ?_
  simp only [Act.put,PutA,PutZ,PutS]
  refine tr1 (.string (mkB (Q3))) ?_
  refine bs ?_
  refine ae 143 #[pv] (by go_simp) ?_
  refine Calls.mono (C4.out _ HB.out) ?_
  rintro e wx4 ⟨rfl,hb4⟩
  replace hY:=(hb4.block _ (ac hY)).trans hY
  replace hX0:=(hb4.block _ (ac hX0)).trans hX0
  replace HB:=qH (HB.out.trans (hb4.mono HB.out.size))
  clear hb4
  refine ⟨_,rfl,⟨hY,hX0⟩,?_⟩
  refine ad ?_
  simp only [Act.put,PutA,PutZ,PutS]
  refine tr1 (.string (mkB (Q4))) ?_
  refine tr1 (.string (mkB (Q4))) ?_
  refine tr_done ?_
  have HX:=qH hX0
  clear hX0 hY ka1 C1 ka2 C2 ka3 C3 ka4 C4
  go_wp2_with fail
  go_roundw
  case rel => exact ⟨i + 1,by go_num,by omega,by rw [HT.out],HB,HX⟩
  simp [intOf]; omega
 have hii:i = ns:=by omega
 have hlt':¬ (i:Int) < (ns:Int):=by omega
 have etk:x.1.take i = x.1:=List.take_of_length_le (by rw [<- HNs.out,hii]; exact Nat.le_refl _)
 obtain ⟨S1,hS1⟩:=gX (S0++(x.1.take i).flatMap styE)
 rw [<- hS1]
 rw [etk] at hS1
 have HS1:=qH hS1
 clear etk hS1 hii
 have cb4:=aa HX.out 1
 obtain ⟨PN,hPN⟩:=gX (encN (nl:Int))
 have C3:Hid (∀ (W:World),Calls Tryz.prog 16 #[.int .i64 (nl:Int)] W (StrE W PN)):=qH (fun W => by rw [hPN]; exact bm _ hIl W)
 obtain ⟨S2,hS2⟩:=gX (S1++PN)
 have hzz:(S2++x.2.1.flatMap lstE).length≤1099511627776:=by
  have:=HZ.out
  rw [hS2,hPN,HS1.out]
  simp only [List.length_append] at this ⊢
  omega
 have ka:=addL S1 PN (by rw [hS2] at hzz; simp only [List.length_append] at hzz; omega)
 rw [<- hS2] at ka
 have HS2:Hid (S2 = S1++encN (nl:Int)):=qH (by rw [hS2,hPN])
 have HZS2:=qH hzz
 clear hPN hS2 hzz
 go_wp2_with fail
 refine (C3.out _).mono ?_
 rintro e w9 ⟨rfl,hb9⟩
 replace HX:=qH ((hb9.block _ (ac HX.out)).trans HX.out)
 replace HB:=qH (HB.out.trans (hb9.mono HB.out.size))
 clear hb9 C3 cb4 cb
 have cb:=aa HX.out 1
 go_wp2_with fail
 clear cb ka
 go_loopw [3,6] (fun sv iv wr => ∃ i:Nat,iv = .int .i64 (i:Int)∧i≤nl∧sv = .string (mkB (S2++(x.2.1.take i).flatMap lstE))∧Hid (Below w.heap.size w wr)∧Hid (wr.heap[w.heap.size]? = some (.cells #[.slice sA ns sc,.slice lA nl lc,.slice cA nc cc,.slice vA nv vc] 47 (0,0)))) (fun _ iv _ => nl - (intOf iv).toNat)
 case atStart => exact ⟨0,rfl,Nat.zero_le _,by simp,HB,HX⟩
 clear HB HX
 obtain ⟨i,rfl,hin,rfl,HB,HX⟩:=hrel
 have cb:=aa HX.out 1
 by_cases hlt:i < nl
 ·have hlt':(i:Int) < (nl:Int):=by omega
  obtain ⟨x1,hx⟩:∃ y,x.2.1[i]? = some y:=⟨_,List.getElem?_eq_getElem (by rw [<- HNl.out]; exact hlt)⟩
  obtain ⟨b,o,vs,rfl,hgb,hbw0,hvl,hRx,hcs⟩:=HVl.out.at i x1 hx
  have hE:EltS b (o + i * 2) vs wr:=EltS.below (w:=w) hcs hbw0 HB.out
  have hbw:b < wr.heap.size:=Nat.lt_of_lt_of_le hbw0 HB.out.size
  have hO1:∀ u∈vs,u.oneCell' = true:=one_lst w G vs x1 hRx
  obtain ⟨pv,rfl,hx1,hy⟩:=hRx
  obtain ⟨yA,yc,hyv,hy1,hy2⟩:=hy.shape
  subst hyv
  unfold maxLen at hy2
  obtain ⟨ny,hny⟩:=gX ((x1.2).length)
  rw [<- hny] at hy hO1 hE hcs
  have HNy:=qH hny
  have HVy:=qH hy
  have hbyn:ny≤9223372036854775807:=by omega
  have hIy:I64 (ny:Int):=by unfold I64; omega
  clear hy1 hy2 hy hny
  have hxl:(S2++(x.2.1.take (i + 1)).flatMap lstE).length≤1099511627776:=by
   have h2:=HZS2.out
   have h3:=aL lstE x.2.1 (i + 1)
   rw [List.length_append] at h2 ⊢
   omega
  rw [aA lstE hx] at hxl
  obtain ⟨L0,hL0⟩:=gX (S2++(x.2.1.take i).flatMap lstE)
  have e0:=hE 0 (.int .i64 x1.1) rfl
  simp only [Nat.add_zero] at e0
  have e1:=hE 1 (.slice yA ny yc) rfl
  have h1:(#[.int .i64 x1.1,.slice yA ny yc]:Array Value).all (·.oneCell') = true:=by
   rw [Array.all_eq_true']
   intro u hu
   exact hO1 u (by simpa using hu)
  go_upto_region 12 with (refine wpList_store_row rfl 110 _ _ rfl wr.heap.size #[.int .i64 x1.1,.slice yA ny yc] rfl rfl 110 _ (heap_alloc_new _ _) size110 rfl h1 ?_; rw [ar])
  clear hE h1 hO1 e0 e1
  obtain ⟨q,hq⟩:=gX (wr.heap.size)
  obtain ⟨wy,hwy⟩:=gX (wr.alloc (.cells #[.int .i64 x1.1,.slice yA ny yc] 110))
  have hY:wy.heap[q]? = some (.cells #[.int .i64 x1.1,.slice yA ny yc] 110 (0,0)):=by rw [hwy,hq]; exact heap_alloc_new wr _
  have hX0:wy.heap[w.heap.size]? = some (.cells #[.slice sA ns sc,.slice (some ⟨b,o,none⟩) nl lc,.slice cA nc cc,.slice vA nv vc] 47 (0,0)):=by rw [hwy]; exact (Below.heap_alloc wr _ _ (ac HX.out)).trans HX.out
  replace HB:Hid (Below w.heap.size w wy):=qH (by rw [hwy]; exact HB.out.alloc HB.out.size _)
  rw [<- hwy]
  rw [<- hq]
  clear hq hwy cb HX
  have HY:=qH hY
  have HX:=qH hX0
  clear hY hX0
  have hlE:lstE x1 = [x1.1,(ny:Int)].flatMap encN++x1.2.flatMap lvlE:=by rw [HNy.out]; simp [lstE,seqE,aj]
  rw [hlE] at hxl
  have HT:Hid (L0++([x1.1,(ny:Int)].flatMap encN++x1.2.flatMap lvlE) = S2++(x.2.1.take (i + 1)).flatMap lstE):=qH (by rw [aA lstE hx,hlE,hL0]; simp only [List.append_assoc])
  obtain ⟨P11,hP11⟩:=gX ([x1.1,(ny:Int)].flatMap encN)
  have C11:Hid (∀ (W:World) (g:Nat),(∀ (j:Nat) (y:Int),[x1.1,(ny:Int)][j]? = some y→W.cell? ⟨g,j,none⟩ = some (.int .i64 y))→Calls Tryz.prog 67 #[.slice (some ⟨g,0,none⟩) 2 2] W (StrE W P11)):=qH (fun W g h => by rw [hP11]; exact nums67 [x1.1,(ny:Int)] g 2 W h (by simp only [List.mem_cons,List.not_mem_nil,or_false]; rintro m (rfl | rfl) <;> assumption) (by simp))
  obtain ⟨T0,hT0⟩:=gX (L0++P11)
  have hzz:(T0++x1.2.flatMap lvlE).length≤1099511627776:=by rw [hT0,hP11,hL0]; simp only [List.length_append] at hxl ⊢; omega
  have ka:=addL L0 P11 (by rw [hT0] at hzz; simp only [List.length_append] at hzz; omega)
  rw [<- hT0] at ka
  rw [<- List.append_assoc,<- hP11,<- hT0] at HT
  have HZ11:=qH hzz
  rw [<- hL0]
  clear hx hcs hgb hbw0 hL0 hxl hlE hP11 hT0 hzz hbw
  have hY:=HY.out
  have hX:=HX.out
  clear HY HX
  refine af (by rfl) ?_
  simp only [List.map]
  refine sq1 (.string (mkB (L0))) ?_
  refine sq1p q 0 ?_
  refine sq1i (x1.1) ?_ (by have q0:=aa hY 0; go_simp)
  refine sq1p q 1 ?_
  refine sq1 (.slice yA ny yc) ?_ (by have q0:=aa hY 1; go_simp)
  refine sq1i (ny:Int) ?_
  refine aq (.slice (some ⟨wy.heap.size,0,none⟩) 2 2) (wy.alloc (.cells #[.int .i64 x1.1,.int .i64 (ny:Int)] 3)) (by go_simp) trivial ?_
  have hq11:wy.heap.size < (wy.alloc (.cells #[.int .i64 x1.1,.int .i64 (ny:Int)] 3)).heap.size:=by simp
  have hn11:(wy.alloc (.cells #[.int .i64 x1.1,.int .i64 (ny:Int)] 3)).heap[wy.heap.size]? = some (.cells #[.int .i64 x1.1,.int .i64 (ny:Int)] 3 (0,0)):=heap_alloc_new _ _
  have ha11:Below wy.heap.size wy (wy.alloc (.cells #[.int .i64 x1.1,.int .i64 (ny:Int)] 3)):=(Below.refl _ _).alloc (Nat.le_refl _) _
  obtain ⟨wb11,hwb11⟩:=gX (wy.alloc (.cells #[.int .i64 x1.1,.int .i64 (ny:Int)] 3))
  obtain ⟨g11,hg11⟩:=gX (wy.heap.size)
  rw [<- hwb11] at hq11 hn11 ha11 ⊢
  rw [<- hg11] at hn11 ⊢
  replace hY:=(ha11.block _ (ac hY)).trans hY
  replace hX:=(ha11.block _ (ac hX)).trans hX
  replace HB:=qH (HB.out.trans (ha11.mono HB.out.size))
  clear hwb11 hg11 ha11 hq11
  simp only [Act.put,PutA,PutZ,PutS]
  refine ae 67 #[.slice (some ⟨g11,0,none⟩) 2 2] (by go_simp) ?_
  refine Calls.mono (C11.out _ g11 (fun j y hj => (aa hn11 j).trans (by rw [List.getElem?_toArray]; exact bj hj))) ?_
  rintro e wx11 ⟨rfl,hb11⟩
  replace hY:=(hb11.block _ (ac hY)).trans hY
  replace hX:=(hb11.block _ (ac hX)).trans hX
  clear hn11
  replace HB:=qH (HB.out.trans (hb11.mono HB.out.size))
  clear hb11
  refine ⟨_,rfl,trivial,?_⟩
  simp only [Act.put,PutA,PutZ,PutS]
  refine sq1 (.string (mkB (T0))) ?_
  refine sq1 (.string (mkB (T0))) ?_
  refine ad ?_
  have HY:=qH hY
  have HX:=qH hX
  clear hY hX ka C11
  have cb:=aa HY.out 1
  go_wp2_with fail
  clear cb
  go_loopw [3,8] (fun sv iv wr => ∃ ib:Nat,iv = .int .i64 (ib:Int)∧ib≤ny∧sv = .string (mkB (T0++(x1.2.take ib).flatMap lvlE))∧Hid (Below w.heap.size w wr)∧Hid (wr.heap[q]? = some (.cells #[.int .i64 x1.1,.slice yA ny yc] 110 (0,0)))∧Hid (wr.heap[w.heap.size]? = some (.cells #[.slice sA ns sc,.slice (some ⟨b,o,none⟩) nl lc,.slice cA nc cc,.slice vA nv vc] 47 (0,0)))) (fun _ iv _ => ny - (intOf iv).toNat)
  case atStart => exact ⟨0,rfl,Nat.zero_le _,by simp,HB,HY,HX⟩
  clear HB HY HX
  obtain ⟨ib,rfl,hinb,rfl,HB,HY,HX⟩:=hrel
  have cb:=aa HY.out 1
  by_cases hltb:ib < ny
  ·have hlt'b:(ib:Int) < (ny:Int):=by omega
   obtain ⟨x1b,hx⟩:∃ y,x1.2[ib]? = some y:=⟨_,List.getElem?_eq_getElem (by rw [<- HNy.out]; exact hltb)⟩
   obtain ⟨bb,ob,vs,rfl,hgb,hbw0,hvl,hRx,hcs⟩:=HVy.out.at ib x1b hx
   have hE:EltS bb (ob + ib * 4) vs wr:=EltS.below (w:=w) hcs hbw0 HB.out
   have hbw:bb < wr.heap.size:=Nat.lt_of_lt_of_le hbw0 HB.out.size
   have hO1:∀ u∈vs,u.oneCell' = true:=one_lvl w G vs x1b hRx
   obtain ⟨he,hx1b,hx2b,hx3b,hx4b⟩:=hRx
   subst he
   have hxl:(T0++(x1.2.take (ib + 1)).flatMap lvlE).length≤1099511627776:=by
    have h2:=HZ11.out
    have h3:=aL lvlE x1.2 (ib + 1)
    rw [List.length_append] at h2 ⊢
    omega
   rw [aA lvlE hx] at hxl
   obtain ⟨L0b,hL0⟩:=gX (T0++(x1.2.take ib).flatMap lvlE)
   obtain ⟨P12,hP12⟩:=gX ([x1b.1,x1b.2.1].flatMap encN)
   have C12:Hid (∀ (W:World) (g:Nat),(∀ (j:Nat) (y:Int),[x1b.1,x1b.2.1][j]? = some y→W.cell? ⟨g,j,none⟩ = some (.int .i64 y))→Calls Tryz.prog 67 #[.slice (some ⟨g,0,none⟩) 2 2] W (StrE W P12)):=qH (fun W g h => by rw [hP12]; exact nums67 [x1b.1,x1b.2.1] g 2 W h (by simp only [List.mem_cons,List.not_mem_nil,or_false]; rintro m (rfl | rfl) <;> assumption) (by simp))
   obtain ⟨P13,hP13⟩:=gX (strE x1b.2.2.1)
   have C13:Hid (∀ (W:World),Calls Tryz.prog 68 #[.string x1b.2.2.1] W (StrE W P13)):=qH (fun W => by rw [hP13]; exact txt68 _ W (by have:=hxl; simp only [lvlE,seqE,strE,textE,List.length_append,ap] at this; omega))
   obtain ⟨P14,hP14⟩:=gX (encN x1b.2.2.2)
   have C14:Hid (∀ (W:World),Calls Tryz.prog 16 #[.int .i64 x1b.2.2.2] W (StrE W P14)):=qH (fun W => by rw [hP14]; exact bm _ hx4b W)
   have HTb:Hid (L0b++P12++P13++P14 = T0++(x1.2.take (ib + 1)).flatMap lvlE):=qH (by
    rw [aA lvlE hx,<- List.append_assoc,<- hL0,hP12,hP13,hP14]
    simp [lvlE,seqE])
   have hll:(L0b++P12++P13++P14).length≤1099511627776:=by rw [HTb.out,aA lvlE hx]; exact hxl
   obtain ⟨Q1,hQ1⟩:=gX (L0b++P12)
   have ka12:=addL L0b P12 (by simp only [List.length_append] at hll ⊢; omega)
   rw [<- hQ1] at ka12
   obtain ⟨Q2,hQ2⟩:=gX (Q1++P13)
   have ka13:=addL Q1 P13 (by rw [hQ1]; simp only [List.length_append] at hll ⊢; omega)
   rw [<- hQ2] at ka13
   obtain ⟨Q3,hQ3⟩:=gX (Q2++P14)
   have ka14:=addL Q2 P14 (by rw [hQ2,hQ1]; simp only [List.length_append] at hll ⊢; omega)
   rw [<- hQ3] at ka14
   rw [<- hQ1,<- hQ2,<- hQ3] at HTb
   rw [<- hL0]
   clear hx hcs hgb hbw0 hL0 hP12 hP13 hP14 hQ1 hQ2 hQ3 hll hxl
   have e0:=hE 0 (.int .i64 x1b.1) rfl
   simp only [Nat.add_zero] at e0
   have e1:=hE 1 (.int .i64 x1b.2.1) rfl
   have e2:=hE 2 (.string x1b.2.2.1) rfl
   have e3:=hE 3 (.int .i64 x1b.2.2.2) rfl
   have h1:(#[.int .i64 x1b.1,.int .i64 x1b.2.1,.string x1b.2.2.1,.int .i64 x1b.2.2.2]:Array Value).all (·.oneCell') = true:=by
    rw [Array.all_eq_true']
    intro u hu
    exact hO1 u (by simpa using hu)
   go_upto_region 17 with (refine wpList_store_row rfl 112 _ _ rfl wr.heap.size #[.int .i64 x1b.1,.int .i64 x1b.2.1,.string x1b.2.2.1,.int .i64 x1b.2.2.2] rfl rfl 112 _ (heap_alloc_new _ _) size112 rfl h1 ?_; rw [ar])
   clear hE h1 hO1 e0 e1 e2 e3
   obtain ⟨qb,hq⟩:=gX (wr.heap.size)
   obtain ⟨wy,hwy⟩:=gX (wr.alloc (.cells #[.int .i64 x1b.1,.int .i64 x1b.2.1,.string x1b.2.2.1,.int .i64 x1b.2.2.2] 112))
   have hY:wy.drew.heap[qb]? = some (.cells #[.int .i64 x1b.1,.int .i64 x1b.2.1,.string x1b.2.2.1,.int .i64 x1b.2.2.2] 112 (0,0)):=by rw [hwy,hq]; exact heap_alloc_new wr _
   have hX0:wy.drew.heap[q]? = some (.cells #[.int .i64 x1.1,.slice (some ⟨bb,ob,none⟩) ny yc] 110 (0,0)):=by rw [hwy]; exact (Below.heap_alloc wr _ _ (ac HY.out)).trans HY.out
   have hX1:wy.drew.heap[w.heap.size]? = some (.cells #[.slice sA ns sc,.slice (some ⟨b,o,none⟩) nl lc,.slice cA nc cc,.slice vA nv vc] 47 (0,0)):=by rw [hwy]; exact (Below.heap_alloc wr _ _ (ac HX.out)).trans HX.out
   replace HB:Hid (Below w.heap.size w wy.drew):=qH (by rw [hwy]; exact (HB.out.alloc HB.out.size _).drew)
   rw [<- hwy]
   rw [<- hq]
   clear hq hwy cb HY HX
   refine ak (S:=fun w' => w'.heap[qb]? = some (.cells #[.int .i64 x1b.1,.int .i64 x1b.2.1,.string x1b.2.2.1,.int .i64 x1b.2.2.2] 112 (0,0))∧w'.heap[q]? = some (.cells #[.int .i64 x1.1,.slice (some ⟨bb,ob,none⟩) ny yc] 110 (0,0))∧w'.heap[w.heap.size]? = some (.cells #[.slice sA ns sc,.slice (some ⟨b,o,none⟩) nl lc,.slice cA nc cc,.slice vA nv vc] 47 (0,0))) [(true,0),(true,1),(true,2),(true,3),(true,4),(true,8),(true,9),(true,12),(true,13),(false,5),(false,6),(true,7),(false,10),(true,11),(false,14),(true,15),(true,16)] (by kernel_rfl) (by kernel_rfl) ⟨hY,hX0,hX1⟩ ?_
   simp only [aF,List.getElem?_cons_succ,List.getElem?_cons_zero]
   refine sq2 (.string (mkB (L0b))) ?_
   refine sq2p qb 0 ?_
   refine sq2i (x1b.1) ?_ (fun w' hS => by have q0:=aa hS.1 0; go_simp)
   refine sq2p qb 1 ?_
   refine sq2i (x1b.2.1) ?_ (fun w' hS => by have q0:=aa hS.1 1; go_simp)
   refine sq2p qb 2 ?_
   refine sq2 (.string x1b.2.2.1) ?_ (fun w' hS => by have q0:=aa hS.1 2; go_simp)
   refine sq2p qb 3 ?_
   refine sq2i (x1b.2.2.2) ?_ (fun w' hS => by have q0:=aa hS.1 3; go_simp)
   refine aq (.slice (some ⟨wy.drew.heap.size,0,none⟩) 2 2) (wy.drew.alloc (.cells #[.int .i64 x1b.1,.int .i64 x1b.2.1] 3)) (by go_simp) ?_ ?_
   ·exact ⟨(Below.heap_alloc _ _ _ (ac hY)).trans hY,(Below.heap_alloc _ _ _ (ac hX0)).trans hX0,(Below.heap_alloc _ _ _ (ac hX1)).trans hX1⟩
   have hq12:wy.drew.heap.size < (wy.drew.alloc (.cells #[.int .i64 x1b.1,.int .i64 x1b.2.1] 3)).heap.size:=by simp
   have hn12:(wy.drew.alloc (.cells #[.int .i64 x1b.1,.int .i64 x1b.2.1] 3)).heap[wy.drew.heap.size]? = some (.cells #[.int .i64 x1b.1,.int .i64 x1b.2.1] 3 (0,0)):=heap_alloc_new _ _
   have ha12:Below wy.drew.heap.size wy.drew (wy.drew.alloc (.cells #[.int .i64 x1b.1,.int .i64 x1b.2.1] 3)):=(Below.refl _ _).alloc (Nat.le_refl _) _
   obtain ⟨wb12,hwb12⟩:=gX (wy.drew.alloc (.cells #[.int .i64 x1b.1,.int .i64 x1b.2.1] 3))
   obtain ⟨g12,hg12⟩:=gX (wy.drew.heap.size)
   rw [<- hwb12] at hq12 hn12 ha12 ⊢
   rw [<- hg12] at hn12 ⊢
   replace hY:=(ha12.block _ (ac hY)).trans hY
   replace hX0:=(ha12.block _ (ac hX0)).trans hX0
   replace hX1:=(ha12.block _ (ac hX1)).trans hX1
   replace HB:=qH (HB.out.trans (ha12.mono HB.out.size))
   clear hwb12 hg12 ha12 hq12
   simp only [Act.put,PutA,PutZ,PutS]
   refine ae 67 #[.slice (some ⟨g12,0,none⟩) 2 2] (by go_simp) ?_
   refine Calls.mono (C12.out _ g12 (fun j y hj => (aa hn12 j).trans (by rw [List.getElem?_toArray]; exact bj hj))) ?_
   rintro e wx12 ⟨rfl,hb12⟩
   replace hY:=(hb12.block _ (ac hY)).trans hY
   replace hX0:=(hb12.block _ (ac hX0)).trans hX0
   replace hX1:=(hb12.block _ (ac hX1)).trans hX1
   clear hn12
   replace HB:=qH (HB.out.trans (hb12.mono HB.out.size))
   clear hb12
   refine ⟨_,rfl,⟨hY,hX0,hX1⟩,?_⟩
   simp only [Act.put,PutA,PutZ,PutS]
   refine sq2 (.string (mkB (Q1))) ?_
   refine ae 68 #[.string x1b.2.2.1] (by go_simp) ?_
   refine Calls.mono (C13.out _) ?_
   rintro e wx13 ⟨rfl,hb13⟩
   replace hY:=(hb13.block _ (ac hY)).trans hY
   replace hX0:=(hb13.block _ (ac hX0)).trans hX0
   replace hX1:=(hb13.block _ (ac hX1)).trans hX1
   replace HB:=qH (HB.out.trans (hb13.mono HB.out.size))
   clear hb13
   refine ⟨_,rfl,⟨hY,hX0,hX1⟩,?_⟩
   simp only [Act.put,PutA,PutZ,PutS]
   refine sq2 (.string (mkB (Q2))) ?_
   refine ae 16 #[.int .i64 x1b.2.2.2] (by go_simp) ?_
   refine Calls.mono (C14.out _) ?_
   rintro e wx14 ⟨rfl,hb14⟩
   replace hY:=(hb14.block _ (ac hY)).trans hY
   replace hX0:=(hb14.block _ (ac hX0)).trans hX0
   replace hX1:=(hb14.block _ (ac hX1)).trans hX1
   replace HB:=qH (HB.out.trans (hb14.mono HB.out.size))
   clear hb14
   refine ⟨_,rfl,⟨hY,hX0,hX1⟩,?_⟩
   simp only [Act.put,PutA,PutZ,PutS]
   refine sq2 (.string (mkB (Q3))) ?_
   refine sq2 (.string (mkB (Q3))) ?_
   refine ad ?_
   have HY:=qH hX0
   have HX:=qH hX1
   clear hX0 hX1 hY ka12 C12 ka13 C13 ka14 C14
   go_wp2_with fail
   go_roundw
   case rel => exact ⟨ib + 1,by go_num,by omega,by rw [HTb.out],HB,HY,HX⟩
   simp [intOf]; omega
  have hii:ib = ny:=by omega
  have hlt':¬ (ib:Int) < (ny:Int):=by omega
  have etk:x1.2.take ib = x1.2:=List.take_of_length_le (by rw [<- HNy.out,hii]; exact Nat.le_refl _)
  obtain ⟨T1,hT1⟩:=gX (T0++(x1.2.take ib).flatMap lvlE)
  rw [<- hT1]
  rw [etk] at hT1
  have HT1:=qH hT1
  clear etk hT1 hii
  rw [<- HT1.out] at HT
  have cb:=aa HY.out 1
  go_wp2_with fail
  go_roundw
  case rel => exact ⟨i + 1,by go_num,by omega,by rw [HT.out],HB,HX⟩
  simp [intOf]; omega
 have hii:i = nl:=by omega
 have hlt':¬ (i:Int) < (nl:Int):=by omega
 have etk:x.2.1.take i = x.2.1:=List.take_of_length_le (by rw [<- HNl.out,hii]; exact Nat.le_refl _)
 obtain ⟨S3,hS3⟩:=gX (S2++(x.2.1.take i).flatMap lstE)
 rw [<- hS3]
 rw [etk] at hS3
 have HS3:=qH hS3
 clear etk hS3 hii
 have cb4:=aa HX.out 2
 obtain ⟨PN,hPN⟩:=gX (encN (nc:Int))
 have C3:Hid (∀ (W:World),Calls Tryz.prog 16 #[.int .i64 (nc:Int)] W (StrE W PN)):=qH (fun W => by rw [hPN]; exact bm _ hIc W)
 obtain ⟨S4,hS4⟩:=gX (S3++PN)
 have hzz:(S4++x.2.2.1.flatMap cmtE).length≤1099511627776:=by
  have:=HZ.out
  rw [hS4,hPN,HS3.out,HS2.out,HS1.out]
  simp only [List.length_append] at this ⊢
  omega
 have ka:=addL S3 PN (by rw [hS4] at hzz; simp only [List.length_append] at hzz; omega)
 rw [<- hS4] at ka
 have HS4:Hid (S4 = S3++encN (nc:Int)):=qH (by rw [hS4,hPN])
 have HZS4:=qH hzz
 clear hPN hS4 hzz
 go_wp2_with fail
 refine (C3.out _).mono ?_
 rintro e w9 ⟨rfl,hb9⟩
 replace HX:=qH ((hb9.block _ (ac HX.out)).trans HX.out)
 replace HB:=qH (HB.out.trans (hb9.mono HB.out.size))
 clear hb9 C3 cb4 cb
 have cb:=aa HX.out 2
 go_wp2_with fail
 clear cb ka
 go_loopw [3,10] (fun sv iv wr => ∃ i:Nat,iv = .int .i64 (i:Int)∧i≤nc∧sv = .string (mkB (S4++(x.2.2.1.take i).flatMap cmtE))∧Hid (Below w.heap.size w wr)∧Hid (wr.heap[w.heap.size]? = some (.cells #[.slice sA ns sc,.slice lA nl lc,.slice cA nc cc,.slice vA nv vc] 47 (0,0)))) (fun _ iv _ => nc - (intOf iv).toNat)
 case atStart => exact ⟨0,rfl,Nat.zero_le _,by simp,HB,HX⟩
 clear HB HX
 obtain ⟨i,rfl,hin,rfl,HB,HX⟩:=hrel
 have cb:=aa HX.out 2
 by_cases hlt:i < nc
 ·have hlt':(i:Int) < (nc:Int):=by omega
  obtain ⟨x1,hx⟩:∃ y,x.2.2.1[i]? = some y:=⟨_,List.getElem?_eq_getElem (by rw [<- HNc.out]; exact hlt)⟩
  obtain ⟨b,o,vs,rfl,hgb,hbw0,hvl,hRx,hcs⟩:=HVc.out.at i x1 hx
  have hE:EltS b (o + i * 6) vs wr:=EltS.below (w:=w) hcs hbw0 HB.out
  have hbw:b < wr.heap.size:=Nat.lt_of_lt_of_le hbw0 HB.out.size
  have hO1:∀ u∈vs,u.oneCell' = true:=one_cmt w G vs x1 hRx
  obtain ⟨he,hx1,hx2,hx3,hx4,hx5,_⟩:=hRx
  subst he
  have hxl:(S4++(x.2.2.1.take (i + 1)).flatMap cmtE).length≤1099511627776:=by
   have h2:=HZS4.out
   have h3:=aL cmtE x.2.2.1 (i + 1)
   rw [List.length_append] at h2 ⊢
   omega
  rw [aA cmtE hx] at hxl
  obtain ⟨L0,hL0⟩:=gX (S4++(x.2.2.1.take i).flatMap cmtE)
  obtain ⟨P21,hP21⟩:=gX ([x1.1,x1.2.1].flatMap encN)
  have C21:Hid (∀ (W:World) (g:Nat),(∀ (j:Nat) (y:Int),[x1.1,x1.2.1][j]? = some y→W.cell? ⟨g,j,none⟩ = some (.int .i64 y))→Calls Tryz.prog 67 #[.slice (some ⟨g,0,none⟩) 2 2] W (StrE W P21)):=qH (fun W g h => by rw [hP21]; exact nums67 [x1.1,x1.2.1] g 2 W h (by simp only [List.mem_cons,List.not_mem_nil,or_false]; rintro m (rfl | rfl) <;> assumption) (by simp))
  obtain ⟨P22,hP22⟩:=gX (strE x1.2.2.1)
  have C22:Hid (∀ (W:World),Calls Tryz.prog 68 #[.string x1.2.2.1] W (StrE W P22)):=qH (fun W => by rw [hP22]; exact txt68 _ W (by have:=hxl; simp only [cmtE,seqE,strE,textE,List.length_append,ap] at this; omega))
  obtain ⟨P23,hP23⟩:=gX (encN x1.2.2.2.1)
  have C23:Hid (∀ (W:World),Calls Tryz.prog 16 #[.int .i64 x1.2.2.2.1] W (StrE W P23)):=qH (fun W => by rw [hP23]; exact bm _ hx4 W)
  obtain ⟨P24,hP24⟩:=gX (strE x1.2.2.2.2.1)
  have C24:Hid (∀ (W:World),Calls Tryz.prog 68 #[.string x1.2.2.2.2.1] W (StrE W P24)):=qH (fun W => by rw [hP24]; exact txt68 _ W (by have:=hxl; simp only [cmtE,seqE,strE,textE,List.length_append,ap] at this; omega))
  obtain ⟨P25,hP25⟩:=gX (flagE x1.2.2.2.2.2)
  have C25:Hid (∀ (W:World),Calls Tryz.prog 84 #[.bool x1.2.2.2.2.2] W (StrE W P25)):=qH (fun W => by rw [hP25]; exact flg84 _ W)
  have HT:Hid (L0++P21++P22++P23++P24++P25 = S4++(x.2.2.1.take (i + 1)).flatMap cmtE):=qH (by
   rw [aA cmtE hx,<- List.append_assoc,<- hL0,hP21,hP22,hP23,hP24,hP25]
   simp [cmtE,seqE])
  have hll:(L0++P21++P22++P23++P24++P25).length≤1099511627776:=by rw [HT.out,aA cmtE hx]; exact hxl
  obtain ⟨Q1,hQ1⟩:=gX (L0++P21)
  have ka21:=addL L0 P21 (by simp only [List.length_append] at hll ⊢; omega)
  rw [<- hQ1] at ka21
  obtain ⟨Q2,hQ2⟩:=gX (Q1++P22)
  have ka22:=addL Q1 P22 (by rw [hQ1]; simp only [List.length_append] at hll ⊢; omega)
  rw [<- hQ2] at ka22
  obtain ⟨Q3,hQ3⟩:=gX (Q2++P23)
  have ka23:=addL Q2 P23 (by rw [hQ2,hQ1]; simp only [List.length_append] at hll ⊢; omega)
  rw [<- hQ3] at ka23
  obtain ⟨Q4,hQ4⟩:=gX (Q3++P24)
  have ka24:=addL Q3 P24 (by rw [hQ3,hQ2,hQ1]; simp only [List.length_append] at hll ⊢; omega)
  rw [<- hQ4] at ka24
  obtain ⟨Q5,hQ5⟩:=gX (Q4++P25)
  have ka25:=addL Q4 P25 (by rw [hQ4,hQ3,hQ2,hQ1]; simp only [List.length_append] at hll ⊢; omega)
  rw [<- hQ5] at ka25
  rw [<- hQ1,<- hQ2,<- hQ3,<- hQ4,<- hQ5] at HT
  rw [<- hL0]
  clear hx hcs hgb hbw0 hL0 hP21 hP22 hP23 hP24 hP25 hQ1 hQ2 hQ3 hQ4 hQ5 hll hxl
  have e0:=hE 0 (.int .i64 x1.1) rfl
  simp only [Nat.add_zero] at e0
  have e1:=hE 1 (.int .i64 x1.2.1) rfl
  have e2:=hE 2 (.string x1.2.2.1) rfl
  have e3:=hE 3 (.int .i64 x1.2.2.2.1) rfl
  have e4:=hE 4 (.string x1.2.2.2.2.1) rfl
  have e5:=hE 5 (.bool x1.2.2.2.2.2) rfl
  have h1:(#[.int .i64 x1.1,.int .i64 x1.2.1,.string x1.2.2.1,.int .i64 x1.2.2.2.1,.string x1.2.2.2.2.1,.bool x1.2.2.2.2.2]:Array Value).all (·.oneCell') = true:=by
   rw [Array.all_eq_true']
   intro u hu
   exact hO1 u (by simpa using hu)
  go_upto_region 23 with (refine wpList_store_row rfl 114 _ _ rfl wr.heap.size #[.int .i64 x1.1,.int .i64 x1.2.1,.string x1.2.2.1,.int .i64 x1.2.2.2.1,.string x1.2.2.2.2.1,.bool x1.2.2.2.2.2] rfl rfl 114 _ (heap_alloc_new _ _) size114 rfl h1 ?_; rw [ar])
  clear hE h1 hO1 e0 e1 e2 e3 e4 e5
  obtain ⟨q,hq⟩:=gX (wr.heap.size)
  obtain ⟨wy,hwy⟩:=gX (wr.alloc (.cells #[.int .i64 x1.1,.int .i64 x1.2.1,.string x1.2.2.1,.int .i64 x1.2.2.2.1,.string x1.2.2.2.2.1,.bool x1.2.2.2.2.2] 114))
  have hY:wy.drew.heap[q]? = some (.cells #[.int .i64 x1.1,.int .i64 x1.2.1,.string x1.2.2.1,.int .i64 x1.2.2.2.1,.string x1.2.2.2.2.1,.bool x1.2.2.2.2.2] 114 (0,0)):=by rw [hwy,hq]; exact heap_alloc_new wr _
  have hX0:wy.drew.heap[w.heap.size]? = some (.cells #[.slice sA ns sc,.slice lA nl lc,.slice (some ⟨b,o,none⟩) nc cc,.slice vA nv vc] 47 (0,0)):=by rw [hwy]; exact (Below.heap_alloc wr _ _ (ac HX.out)).trans HX.out
  replace HB:Hid (Below w.heap.size w wy.drew):=qH (by rw [hwy]; exact (HB.out.alloc HB.out.size _).drew)
  rw [<- hwy]
  rw [<- hq]
  clear hq hwy cb HX
  refine ak (S:=fun w' => w'.heap[q]? = some (.cells #[.int .i64 x1.1,.int .i64 x1.2.1,.string x1.2.2.1,.int .i64 x1.2.2.2.1,.string x1.2.2.2.2.1,.bool x1.2.2.2.2.2] 114 (0,0))∧w'.heap[w.heap.size]? = some (.cells #[.slice sA ns sc,.slice lA nl lc,.slice (some ⟨b,o,none⟩) nc cc,.slice vA nv vc] 47 (0,0))) [(true,0),(true,1),(true,2),(true,3),(true,4),(true,8),(true,9),(true,12),(true,13),(true,16),(true,17),(true,20),(true,21),(false,5),(false,6),(true,7),(false,10),(true,11),(false,14),(true,15),(false,18),(true,19),(false,22),(true,23),(true,24)] (by kernel_rfl) (by kernel_rfl) ⟨hY,hX0⟩ ?_
  simp only [aF,List.getElem?_cons_succ,List.getElem?_cons_zero]
  refine sq2 (.string (mkB (L0))) ?_
  refine sq2p q 0 ?_
  refine sq2i (x1.1) ?_ (fun w' hS => by have q0:=aa hS.1 0; go_simp)
  refine sq2p q 1 ?_
  refine sq2i (x1.2.1) ?_ (fun w' hS => by have q0:=aa hS.1 1; go_simp)
  refine sq2p q 2 ?_
  refine sq2 (.string x1.2.2.1) ?_ (fun w' hS => by have q0:=aa hS.1 2; go_simp)
  refine sq2p q 3 ?_
  refine sq2i (x1.2.2.2.1) ?_ (fun w' hS => by have q0:=aa hS.1 3; go_simp)
  refine sq2p q 4 ?_
  refine sq2 (.string x1.2.2.2.2.1) ?_ (fun w' hS => by have q0:=aa hS.1 4; go_simp)
  refine sq2p q 5 ?_
  refine sq2 (.bool x1.2.2.2.2.2) ?_ (fun w' hS => by have q0:=aa hS.1 5; go_simp)
  refine aq (.slice (some ⟨wy.drew.heap.size,0,none⟩) 2 2) (wy.drew.alloc (.cells #[.int .i64 x1.1,.int .i64 x1.2.1] 3)) (by go_simp) ?_ ?_
  ·exact ⟨(Below.heap_alloc _ _ _ (ac hY)).trans hY,(Below.heap_alloc _ _ _ (ac hX0)).trans hX0⟩
  have hq21:wy.drew.heap.size < (wy.drew.alloc (.cells #[.int .i64 x1.1,.int .i64 x1.2.1] 3)).heap.size:=by simp
  have hn21:(wy.drew.alloc (.cells #[.int .i64 x1.1,.int .i64 x1.2.1] 3)).heap[wy.drew.heap.size]? = some (.cells #[.int .i64 x1.1,.int .i64 x1.2.1] 3 (0,0)):=heap_alloc_new _ _
  have ha21:Below wy.drew.heap.size wy.drew (wy.drew.alloc (.cells #[.int .i64 x1.1,.int .i64 x1.2.1] 3)):=(Below.refl _ _).alloc (Nat.le_refl _) _
  obtain ⟨wb21,hwb21⟩:=gX (wy.drew.alloc (.cells #[.int .i64 x1.1,.int .i64 x1.2.1] 3))
  obtain ⟨g21,hg21⟩:=gX (wy.drew.heap.size)
  rw [<- hwb21] at hq21 hn21 ha21 ⊢
  rw [<- hg21] at hn21 ⊢
  replace hY:=(ha21.block _ (ac hY)).trans hY
  replace hX0:=(ha21.block _ (ac hX0)).trans hX0
  replace HB:=qH (HB.out.trans (ha21.mono HB.out.size))
  clear hwb21 hg21 ha21 hq21
  simp only [Act.put,PutA,PutZ,PutS]
  refine ae 67 #[.slice (some ⟨g21,0,none⟩) 2 2] (by go_simp) ?_
  refine Calls.mono (C21.out _ g21 (fun j y hj => (aa hn21 j).trans (by rw [List.getElem?_toArray]; exact bj hj))) ?_
  rintro e wx21 ⟨rfl,hb21⟩
  replace hY:=(hb21.block _ (ac hY)).trans hY
  replace hX0:=(hb21.block _ (ac hX0)).trans hX0
  clear hn21
  replace HB:=qH (HB.out.trans (hb21.mono HB.out.size))
  clear hb21
  refine ⟨_,rfl,⟨hY,hX0⟩,?_⟩
  simp only [Act.put,PutA,PutZ,PutS]
  refine sq2 (.string (mkB (Q1))) ?_
  refine ae 68 #[.string x1.2.2.1] (by go_simp) ?_
  refine Calls.mono (C22.out _) ?_
  rintro e wx22 ⟨rfl,hb22⟩
  replace hY:=(hb22.block _ (ac hY)).trans hY
  replace hX0:=(hb22.block _ (ac hX0)).trans hX0
  replace HB:=qH (HB.out.trans (hb22.mono HB.out.size))
  clear hb22
  refine ⟨_,rfl,⟨hY,hX0⟩,?_⟩
  simp only [Act.put,PutA,PutZ,PutS]
  refine sq2 (.string (mkB (Q2))) ?_
  refine ae 16 #[.int .i64 x1.2.2.2.1] (by go_simp) ?_
  refine Calls.mono (C23.out _) ?_
  rintro e wx23 ⟨rfl,hb23⟩
  replace hY:=(hb23.block _ (ac hY)).trans hY
  replace hX0:=(hb23.block _ (ac hX0)).trans hX0
  replace HB:=qH (HB.out.trans (hb23.mono HB.out.size))
  clear hb23
  refine ⟨_,rfl,⟨hY,hX0⟩,?_⟩
  simp only [Act.put,PutA,PutZ,PutS]
  refine sq2 (.string (mkB (Q3))) ?_
  refine ae 68 #[.string x1.2.2.2.2.1] (by go_simp) ?_
  refine Calls.mono (C24.out _) ?_
  rintro e wx24 ⟨rfl,hb24⟩
  replace hY:=(hb24.block _ (ac hY)).trans hY
  replace hX0:=(hb24.block _ (ac hX0)).trans hX0
  replace HB:=qH (HB.out.trans (hb24.mono HB.out.size))
  clear hb24
  refine ⟨_,rfl,⟨hY,hX0⟩,?_⟩
  simp only [Act.put,PutA,PutZ,PutS]
  refine sq2 (.string (mkB (Q4))) ?_
  refine ae 84 #[.bool x1.2.2.2.2.2] (by go_simp) ?_
  refine Calls.mono (C25.out _) ?_
  rintro e wx25 ⟨rfl,hb25⟩
  replace hY:=(hb25.block _ (ac hY)).trans hY
  replace hX0:=(hb25.block _ (ac hX0)).trans hX0
  replace HB:=qH (HB.out.trans (hb25.mono HB.out.size))
  clear hb25
  refine ⟨_,rfl,⟨hY,hX0⟩,?_⟩
  simp only [Act.put,PutA,PutZ,PutS]
  refine sq2 (.string (mkB (Q5))) ?_
  refine sq2 (.string (mkB (Q5))) ?_
  refine ad ?_
  have HX:=qH hX0
  clear hX0 hY ka21 C21 ka22 C22 ka23 C23 ka24 C24 ka25 C25
  go_wp2_with fail
  go_roundw
  case rel => exact ⟨i + 1,by go_num,by omega,by rw [HT.out],HB,HX⟩
  simp [intOf]; omega
 have hii:i = nc:=by omega
 have hlt':¬ (i:Int) < (nc:Int):=by omega
 have etk:x.2.2.1.take i = x.2.2.1:=List.take_of_length_le (by rw [<- HNc.out,hii]; exact Nat.le_refl _)
 obtain ⟨S5,hS5⟩:=gX (S4++(x.2.2.1.take i).flatMap cmtE)
 rw [<- hS5]
 rw [etk] at hS5
 have HS5:=qH hS5
 clear etk hS5 hii
 have cb4:=aa HX.out 3
 obtain ⟨PN,hPN⟩:=gX (encN (nv:Int))
 have C3:Hid (∀ (W:World),Calls Tryz.prog 16 #[.int .i64 (nv:Int)] W (StrE W PN)):=qH (fun W => by rw [hPN]; exact bm _ hIv W)
 obtain ⟨S6,hS6⟩:=gX (S5++PN)
 have hzz:(S6++x.2.2.2.flatMap vrE).length≤1099511627776:=by
  have:=HZ.out
  rw [hS6,hPN,HS5.out,HS4.out,HS3.out,HS2.out,HS1.out]
  simp only [List.length_append] at this ⊢
  omega
 have ka:=addL S5 PN (by rw [hS6] at hzz; simp only [List.length_append] at hzz; omega)
 rw [<- hS6] at ka
 have HS6:Hid (S6 = S5++encN (nv:Int)):=qH (by rw [hS6,hPN])
 have HZS6:=qH hzz
 clear hPN hS6 hzz
 go_wp2_with fail
 refine (C3.out _).mono ?_
 rintro e w9 ⟨rfl,hb9⟩
 replace HX:=qH ((hb9.block _ (ac HX.out)).trans HX.out)
 replace HB:=qH (HB.out.trans (hb9.mono HB.out.size))
 clear hb9 C3 cb4 cb
 have cb:=aa HX.out 3
 go_wp2_with fail
 clear cb ka
 go_loopw [3,12] (fun sv iv wr => ∃ i:Nat,iv = .int .i64 (i:Int)∧i≤nv∧sv = .string (mkB (S6++(x.2.2.2.take i).flatMap vrE))∧Hid (Below w.heap.size w wr)∧Hid (wr.heap[w.heap.size]? = some (.cells #[.slice sA ns sc,.slice lA nl lc,.slice cA nc cc,.slice vA nv vc] 47 (0,0)))) (fun _ iv _ => nv - (intOf iv).toNat)
 case atStart => exact ⟨0,rfl,Nat.zero_le _,by simp,HB,HX⟩
 clear HB HX
 obtain ⟨i,rfl,hin,rfl,HB,HX⟩:=hrel
 have cb:=aa HX.out 3
 by_cases hlt:i < nv
 ·have hlt':(i:Int) < (nv:Int):=by omega
  obtain ⟨x1,hx⟩:∃ y,x.2.2.2[i]? = some y:=⟨_,List.getElem?_eq_getElem (by rw [<- HNv.out]; exact hlt)⟩
  obtain ⟨b,o,vs,rfl,hgb,hbw0,hvl,hRx,hcs⟩:=HVv.out.at i x1 hx
  have hE:EltS b (o + i * 2) vs wr:=EltS.below (w:=w) hcs hbw0 HB.out
  have hbw:b < wr.heap.size:=Nat.lt_of_lt_of_le hbw0 HB.out.size
  obtain ⟨he,hx1,hx2⟩:=hRx
  subst he
  have hxl:(S6++(x.2.2.2.take (i + 1)).flatMap vrE).length≤1099511627776:=by
   have h2:=HZS6.out
   have h3:=aL vrE x.2.2.2 (i + 1)
   rw [List.length_append] at h2 ⊢
   omega
  rw [aA vrE hx] at hxl
  obtain ⟨L0,hL0⟩:=gX (S6++(x.2.2.2.take i).flatMap vrE)
  obtain ⟨P31,hP31⟩:=gX (strE x1.1)
  have C31:Hid (∀ (W:World),Calls Tryz.prog 68 #[.string x1.1] W (StrE W P31)):=qH (fun W => by rw [hP31]; exact txt68 _ W (by have:=hxl; simp only [vrE,seqE,strE,textE,List.length_append,ap] at this; omega))
  obtain ⟨P32,hP32⟩:=gX (strE x1.2)
  have C32:Hid (∀ (W:World),Calls Tryz.prog 68 #[.string x1.2] W (StrE W P32)):=qH (fun W => by rw [hP32]; exact txt68 _ W (by have:=hxl; simp only [vrE,seqE,strE,textE,List.length_append,ap] at this; omega))
  have HT:Hid (L0++P31++P32 = S6++(x.2.2.2.take (i + 1)).flatMap vrE):=qH (by
   rw [aA vrE hx,<- List.append_assoc,<- hL0,hP31,hP32]
   simp [vrE,seqE])
  have hll:(L0++P31++P32).length≤1099511627776:=by rw [HT.out,aA vrE hx]; exact hxl
  obtain ⟨Q1,hQ1⟩:=gX (L0++P31)
  have ka31:=addL L0 P31 (by simp only [List.length_append] at hll ⊢; omega)
  rw [<- hQ1] at ka31
  obtain ⟨Q2,hQ2⟩:=gX (Q1++P32)
  have ka32:=addL Q1 P32 (by rw [hQ1]; simp only [List.length_append] at hll ⊢; omega)
  rw [<- hQ2] at ka32
  rw [<- hQ1,<- hQ2] at HT
  rw [<- hL0]
  clear hx hcs hgb hbw0 hL0 hP31 hP32 hQ1 hQ2 hll hxl
  go_upto_region 28 with fail
  replace hE:=hE.drew
  replace HB:=qH HB.out.drew
  have hX0:wr.drew.heap[w.heap.size]? = some (.cells #[.slice sA ns sc,.slice lA nl lc,.slice cA nc cc,.slice (some ⟨b,o,none⟩) nv vc] 47 (0,0)):=HX.out
  clear cb HX
  refine ak (S:=fun w' => w'.heap[w.heap.size]? = some (.cells #[.slice sA ns sc,.slice lA nl lc,.slice cA nc cc,.slice (some ⟨b,o,none⟩) nv vc] 47 (0,0))∧EltS b (o + i * 2) [.string x1.1,.string x1.2] w') [(true,0),(true,1),(true,2),(true,3),(true,4),(true,5),(true,6),(true,9),(true,10),(true,11),(true,12),(true,13),(true,14),(false,7),(true,8),(false,15),(true,16),(true,17)] (by kernel_rfl) (by kernel_rfl) ⟨hX0,hE⟩ ?_
  simp only [aF,List.getElem?_cons_succ,List.getElem?_cons_zero]
  refine sq2 (.string (mkB (L0))) ?_
  refine sq2p (w.heap.size) 3 ?_
  refine sq2 (.slice (some ⟨b,o,none⟩) nv vc) ?_ (fun w' hS => by have q0:=aa hS.1 3; go_simp)
  refine sq2i (i:Int) ?_
  refine sq2p b (o + i * 2) ?_
  refine sq2p b (o + i * 2) ?_
  refine sq2 (.string x1.1) ?_ (fun w' hS => by have q0:=hS.2 0 (.string x1.1) rfl; simp only [Nat.add_zero] at q0; go_simp)
  refine sq2p (w.heap.size) 3 ?_
  refine sq2 (.slice (some ⟨b,o,none⟩) nv vc) ?_ (fun w' hS => by have q0:=aa hS.1 3; go_simp)
  refine sq2i (i:Int) ?_
  refine sq2p b (o + i * 2) ?_
  refine sq2p b (o + i * 2 + 1) ?_
  refine sq2 (.string x1.2) ?_ (fun w' hS => by have q0:=hS.2 1 (.string x1.2) rfl; go_simp)
  refine ae 68 #[.string x1.1] (by go_simp) ?_
  refine Calls.mono (C31.out _) ?_
  rintro e wx31 ⟨rfl,hb31⟩
  replace hX0:=(hb31.block _ (ac hX0)).trans hX0
  replace hE:=hE.below hbw hb31
  replace hbw:=Nat.lt_of_lt_of_le hbw hb31.size
  replace HB:=qH (HB.out.trans (hb31.mono HB.out.size))
  clear hb31
  refine ⟨_,rfl,⟨hX0,hE⟩,?_⟩
  simp only [Act.put,PutA,PutZ,PutS]
  refine sq2 (.string (mkB (Q1))) ?_
  refine ae 68 #[.string x1.2] (by go_simp) ?_
  refine Calls.mono (C32.out _) ?_
  rintro e wx32 ⟨rfl,hb32⟩
  replace hX0:=(hb32.block _ (ac hX0)).trans hX0
  replace hE:=hE.below hbw hb32
  replace hbw:=Nat.lt_of_lt_of_le hbw hb32.size
  replace HB:=qH (HB.out.trans (hb32.mono HB.out.size))
  clear hb32
  refine ⟨_,rfl,⟨hX0,hE⟩,?_⟩
  simp only [Act.put,PutA,PutZ,PutS]
  refine sq2 (.string (mkB (Q2))) ?_
  refine sq2 (.string (mkB (Q2))) ?_
  refine ad ?_
  have HX:=qH hX0
  clear hX0 hE ka31 C31 ka32 C32
  go_wp2_with fail
  go_roundw
  case rel => exact ⟨i + 1,by go_num,by omega,by rw [HT.out],HB,HX⟩
  simp [intOf]; omega
 have hii:i = nv:=by omega
 have hlt':¬ (i:Int) < (nv:Int):=by omega
 have etk:x.2.2.2.take i = x.2.2.2:=List.take_of_length_le (by rw [<- HNv.out,hii]; exact Nat.le_refl _)
 obtain ⟨S7,hS7⟩:=gX (S6++(x.2.2.2.take i).flatMap vrE)
 rw [<- hS7]
 rw [etk] at hS7
 have HS7:=qH hS7
 clear etk hS7 hii
 have HE:Hid (S7 = RR):=qH (by rw [HS7.out,HS6.out,HS5.out,HS4.out,HS3.out,HS2.out,HS1.out,HRR.out])
 go_wp2_with fail
 go_ret
 exact ⟨by rw [<- HE.out]; rfl,HB.out⟩
end Go.Proofs.YtmhhcfceikcfbaaGreat
