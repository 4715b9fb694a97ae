/- What was written as a document is read again; what is cut off is told. -/
import Derived.Test.YtmhhcfceikcfbaaGreatDcL7
namespace Go.Proofs.YtmhhcfceikcfbaaGreat
open Go.RowKit
set_option maxRecDepth 100000
set_option maxHeartbeats 4000000
theorem pfx_of {s t:ByteArray} (hs:t.size≤s.size) (h:(al s).take t.size = al t):pfxB s t = true:=by
 unfold pfxB
 rw [if_pos hs]
 have:s.extract 0 t.size = t:=bytesN_inj (by rw [bytesN_extract,List.drop_zero,h])
 rw [this]
 simp
theorem obl_bytes:al obl = aT:=rfl
theorem doc_bytes {n:Nat} (x:Dc n):al (mkB (aT++dcE n x)) = aT++dcE n x∧(mkB (aT++dcE n x)).size = 4 + (dcE n x).length:=by
 refine ⟨bytesN_mkB (fun b hb => ?_),by rw [mkB_size,List.length_append]; rfl⟩
 rcases List.mem_append.1 hb with q | q
 ·simp [aT] at q
  omega
 exact byt_dc n x b q
theorem doc_whole {n:Nat} {x:Dc n} (hx:dcD n x):rdErr (dcR n) (mkB (aT++dcE n x)) = 0∧dcR n ((al (mkB (aT++dcE n x))).drop 4) = .ok x ((mkB (aT++dcE n x)).size - 4):=by
 obtain ⟨h1,h2⟩:=doc_bytes x
 have h3:(al (mkB (aT++dcE n x))).drop 4 = dcE n x:=by rw [h1]; rfl
 have h4:=(fit_dcD n).back x hx []
 rw [List.append_nil] at h4
 have hp:pfxB (mkB (aT++dcE n x)) obl = true:=pfx_of (by rw [h2]; show 4≤_; omega) (by rw [h1,obl_bytes]; rfl)
 have h5:dcR n ((al (mkB (aT++dcE n x))).drop 4) = .ok x ((mkB (aT++dcE n x)).size - 4):=by rw [h3,h4,h2,Nat.add_sub_cancel_left]
 refine ⟨?_,h5⟩
 unfold rdErr
 have hA:¬ ((mkB (aT++dcE n x)).size < 4∧pfxB obl (mkB (aT++dcE n x)) = true):=fun q => by have:=q.1; omega
 have hB:¬ pfxB (mkB (aT++dcE n x)) obl = false:=by rw [hp]; decide
 rw [if_neg hA,if_neg hB,h5]
 simp only
 rw [if_neg (by omega)]
end Go.Proofs.YtmhhcfceikcfbaaGreat
namespace Go.Proofs.YtmhhcfceikcfbaaGreat
open Go.RowKit
set_option maxRecDepth 100000
set_option maxHeartbeats 4000000
theorem chk0:chkD dc0 = 0:=by kernel_rfl
theorem k_docb (w:World):Calls Tryz.prog 21 #[.agg #[.slice none 0 0,.slice none 0 0,.int .i64 0,.int .i64 0,.slice none 0 0,.slice none 0 0,.slice none 0 0,.slice none 0 0,.slice none 0 0,.slice none 0 0,.slice none 0 0]] w fun e w' => e = .returned (.tuple #[.string ⟨#[79,66,76,49,0,0,0,0,0,0,0,0,0,0,0]⟩,.int .i64 0])∧Below w.heap.size w w':=by
 have h:=encode21 0 (fun _ => False) w _ dc0 (dc0_rep w) (fun _ h => h.elim) (by
  have h:=congrArg List.length dc0_enc
  have h2:aT.length = 4:=rfl
  simp only [List.length_append,List.length_cons,List.length_nil] at h
  omega)
 unfold EncR at h
 rw [chk0,if_pos rfl,dc0_enc] at h
 exact h
theorem known15b (w:World):Calls Tryz.prog 15 #[] w (TrueC w):=by
 go_enter Tryz.func15,Tryz.ntmps15
 go_wp2_with fail
 refine (k_docb w).mono ?_
 rintro e w1 ⟨rfl,hb1⟩
 have HB1:=qH hb1
 clear hb1
 go_wp2_with fail
 refine (k_rd w1).mono ?_
 rintro e w2 ⟨rfl,hb2⟩
 have HB2:=qH (HB1.out.trans (hb2.mono HB1.out.size))
 clear hb2 HB1
 go_wp2_with fail
 refine (k_n1 w2).mono ?_
 rintro e w3 ⟨rfl,hb3⟩
 have HB3:=qH (HB2.out.trans (hb3.mono HB2.out.size))
 clear hb3 HB2
 go_wp2_with fail
 refine (k_n2 w3).mono ?_
 rintro e w4 ⟨rfl,hb4⟩
 have HB4:=qH (HB3.out.trans (hb4.mono HB3.out.size))
 clear hb4 HB3
 go_wp2_with fail
 refine (k_it w4).mono ?_
 rintro e w5 ⟨rfl,hb5⟩
 have HB5:=qH (HB4.out.trans (hb5.mono HB4.out.size))
 clear hb5 HB4
 go_wp2_with fail
 go_ret
 exact ⟨rfl,HB5.out⟩
end Go.Proofs.YtmhhcfceikcfbaaGreat
namespace Go.Proofs.YtmhhcfceikcfbaaGreat
open Go.RowKit
set_option maxRecDepth 100000
set_option maxHeartbeats 4000000
theorem magic_mk:(⟨#[79,66,76,49]⟩:ByteArray) = mkB aT:=rfl
theorem str_doc (n:Nat) (G:Nat→Prop) (w:World) (vs:List Value) (x:Dc n) (hR:dcP n w G vs x) (hG:∀ b,G b→b < w.heap.size) (hz:(aT++dcE n x).length≤1099511627776):Calls Tryz.prog 37 #[.agg vs.toArray] w (StrE w (aT++dcE n x)):=by
 obtain ⟨fv,h0,h1,h2,h3,h4,rv,s0,s1,s2,s3,rfl,hf,hh,hr,hst⟩:=hR
 obtain ⟨fA,fc,hfv,_,_⟩:=hf.shape
 subst hfv
 obtain ⟨rA,rc,hrv,hr1,hr2⟩:=hr.shape
 subst hrv
 unfold maxLen at hr2
 obtain ⟨fn,hfn⟩:=gX (x.1.length)
 rw [<- hfn] at hf
 rw [<- hfn]
 obtain ⟨rn,hrn⟩:=gX (x.2.2.1.length)
 rw [<- hrn] at hr
 rw [<- hrn]
 have HNr:=qH hrn
 have HVr:=qH hr
 have HST:=qH hst
 have HGG:=qH hG
 have hE0:aT++dcE n x = aT++aj (itE n) x.1++hdE x.2.1++encN (rn:Int)++x.2.2.1.flatMap revE++stgE x.2.2.2:=by
  rw [hrn]
  simp [dcE,seqE,aj]
 obtain ⟨RR,hRR⟩:=gX (aT++dcE n x)
 rw [<- hRR]
 rw [hE0] at hz hRR
 have hbrn:rn≤9223372036854775807:=by omega
 have hIr:I64 (rn:Int):=by unfold I64; omega
 clear hr1 hr2
 have hX:(w.alloc (.cells #[.slice fA fn fc,h0,h1,h2,h3,h4,.slice rA rn rc,s0,s1,s2,s3] 49)).heap[w.heap.size]? = some (.cells #[.slice fA fn fc,h0,h1,h2,h3,h4,.slice rA rn rc,s0,s1,s2,s3] 49 (0,0)):=heap_alloc_new w _
 have HB:Hid (Below w.heap.size w (w.alloc (.cells #[.slice fA fn fc,h0,h1,h2,h3,h4,.slice rA rn rc,s0,s1,s2,s3] 49))):=qH ((Below.refl _ _).alloc (Nat.le_refl _) _)
 obtain ⟨P1,hP1⟩:=gX (aj (itE n) x.1)
 have C1:Hid (∀ (W:World),Below w.heap.size w W→Calls Tryz.prog 25 #[.slice fA fn fc] W (StrE W P1)):=qH (fun W hW => by rw [hP1]; exact str_items n G W _ x.1 (hf.below (aZ n) hG hW) (fun b h => Nat.lt_of_lt_of_le (hG b h) hW.size) (by simp only [List.length_append] at hz; omega))
 obtain ⟨P2,hP2⟩:=gX (hdE x.2.1)
 have C2:Hid (∀ (W:World),Below w.heap.size w W→Calls Tryz.prog 69 #[.agg #[h0,h1,h2,h3,h4]] W (StrE W P2)):=qH (fun W hW => by rw [hP2]; exact str_head G W [h0,h1,h2,h3,h4] x.2.1 (Rp.below aK hh hG hW) (fun b h => Nat.lt_of_lt_of_le (hG b h) hW.size) (by simp only [List.length_append] at hz; omega))
 obtain ⟨P3,hP3⟩:=gX (encN (rn:Int))
 have C3:Hid (∀ (W:World),Calls Tryz.prog 16 #[.int .i64 (rn:Int)] W (StrE W P3)):=qH (fun W => by rw [hP3]; exact bm _ hIr W)
 obtain ⟨Q1,hQ1⟩:=gX (aT++P1)
 obtain ⟨Q2,hQ2⟩:=gX (Q1++P2)
 obtain ⟨Q3,hQ3⟩:=gX (Q2++P3)
 have hQQ:Q3 = aT++aj (itE n) x.1++hdE x.2.1++encN (rn:Int):=by rw [hQ3,hQ2,hQ1,hP1,hP2,hP3]
 rw [<- hQQ] at hz hRR
 have hq3:Q3.length≤1099511627776:=by simp only [List.length_append] at hz; omega
 have ka1:=addL aT P1 (by rw [hQ3,hQ2,hQ1] at hq3; simp only [List.length_append] at hq3; omega)
 rw [<- hQ1,<- magic_mk] at ka1
 have ka2:=addL Q1 P2 (by rw [hQ3,hQ2] at hq3; simp only [List.length_append] at hq3; omega)
 rw [<- hQ2] at ka2
 have ka3:=addL Q2 P3 (by rw [hQ3] at hq3; simp only [List.length_append] at hq3; omega)
 rw [<- hQ3] at ka3
 have HZ3:Hid ((Q3++x.2.2.1.flatMap revE).length≤1099511627776):=qH (by simp only [List.length_append] at hz ⊢; omega)
 have HZ:=qH hz
 have HRR:=qH hRR
 clear hz hRR hE0 hQQ hq3 hf hh hr hst hfn hrn hP1 hP2 hP3 hQ1 hQ2 hQ3 hG
 go_enter Tryz.func37,Tryz.ntmps37
 go_upto_region 1 with fail
 obtain ⟨wy,hwy⟩:=gX (w.alloc (.cells #[.slice fA fn fc,h0,h1,h2,h3,h4,.slice rA rn rc,s0,s1,s2,s3] 49))
 rw [<- hwy] at hX HB ⊢
 clear hwy
 replace hX:wy.drew.heap[w.heap.size]? = some (.cells #[.slice fA fn fc,h0,h1,h2,h3,h4,.slice rA rn rc,s0,s1,s2,s3] 49 (0,0)):=hX
 replace HB:=qH HB.out.drew
 refine ak (S:=fun w' => w'.heap[w.heap.size]? = some (.cells #[.slice fA fn fc,h0,h1,h2,h3,h4,.slice rA rn rc,s0,s1,s2,s3] 49 (0,0))) [(true,0),(true,1),(true,4),(true,5),(true,8),(true,9),(true,10),(false,2),(true,3),(false,6),(true,7),(false,11),(true,12),(true,13)] (by kernel_rfl) (by kernel_rfl) hX ?_
 simp only [aF,List.getElem?_cons_succ,List.getElem?_cons_zero]
 refine sq2p (w.heap.size) 0 ?_
 refine sq2 (.slice fA fn fc) ?_ (fun w' hS => by have q0:=aa hS 0; go_simp)
 refine sq2p (w.heap.size) 1 ?_
 refine sq2 (.agg #[h0,h1,h2,h3,h4]) ?_ (fun w' hS => by have q0:=aa hS 1; have q1:=aa hS 2; have q2:=aa hS 3; have q3:=aa hS 4; have q4:=aa hS 5; go_simp)
 refine sq2p (w.heap.size) 6 ?_
 refine sq2 (.slice rA rn rc) ?_ (fun w' hS => by have q0:=aa hS 6; go_simp)
 refine sq2i (rn:Int) ?_
 refine ae 25 #[.slice fA fn fc] (by go_simp) ?_
 refine Calls.mono (C1.out _ HB.out) ?_
 rintro e wx1 ⟨rfl,hb1⟩
 replace hX:=(hb1.block _ (ac hX)).trans hX
 replace HB:=qH (HB.out.trans (hb1.mono HB.out.size))
 clear hb1
 refine ⟨_,rfl,hX,?_⟩
 simp only [Act.put,PutA,PutZ,PutS]
 refine sq2 (.string (mkB (Q1))) ?_
 refine ae 69 #[.agg #[h0,h1,h2,h3,h4]] (by go_simp) ?_
 refine Calls.mono (C2.out _ HB.out) ?_
 rintro e wx2 ⟨rfl,hb2⟩
 replace hX:=(hb2.block _ (ac hX)).trans hX
 replace HB:=qH (HB.out.trans (hb2.mono HB.out.size))
 clear hb2
 refine ⟨_,rfl,hX,?_⟩
 simp only [Act.put,PutA,PutZ,PutS]
 refine sq2 (.string (mkB (Q2))) ?_
 refine ae 16 #[.int .i64 (rn:Int)] (by go_simp) ?_
 refine Calls.mono (C3.out _) ?_
 rintro e wx3 ⟨rfl,hb3⟩
 replace hX:=(hb3.block _ (ac hX)).trans hX
 replace HB:=qH (HB.out.trans (hb3.mono HB.out.size))
 clear hb3
 refine ⟨_,rfl,hX,?_⟩
 simp only [Act.put,PutA,PutZ,PutS]
 refine sq2 (.string (mkB (Q3))) ?_
 refine sq2 (.string (mkB (Q3))) ?_
 refine ad ?_
 have HX:=qH hX
 clear hX ka1 ka2 ka3 C1 C2 C3
 have cb:=aa HX.out 6
 go_wp2_with fail
 clear cb
 go_loopw [3,4] (fun sv iv wr => ∃ i:Nat,iv = .int .i64 (i:Int)∧i≤rn∧sv = .string (mkB (Q3++(x.2.2.1.take i).flatMap revE))∧Hid (Below w.heap.size w wr)∧Hid (wr.heap[w.heap.size]? = some (.cells #[.slice fA fn fc,h0,h1,h2,h3,h4,.slice rA rn rc,s0,s1,s2,s3] 49 (0,0)))) (fun _ iv _ => rn - (intOf iv).toNat)
 case atStart => exact ⟨0,rfl,Nat.zero_le _,by simp,HB,HX⟩
 clear HB HX
 obtain ⟨i,rfl,hin,rfl,HB,HX⟩:=hrel
 have cb:=aa HX.out 6
 by_cases hlt:i < rn
 ·have hlt':(i:Int) < (rn:Int):=by omega
  obtain ⟨x1,hx⟩:∃ y,x.2.2.1[i]? = some y:=⟨_,List.getElem?_eq_getElem (by rw [<- HNr.out]; exact hlt)⟩
  obtain ⟨b,o,vs,rfl,hgb,hbw0,hvl,hRx,hcs⟩:=HVr.out.at i x1 hx
  have hE:EltS b (o + i * 3) vs wr:=EltS.below (w:=w) hcs hbw0 HB.out
  have hbw:b < wr.heap.size:=Nat.lt_of_lt_of_le hbw0 HB.out.size
  obtain ⟨he,hx1,hx2,hx3⟩:=hRx
  subst he
  have hxl:(Q3++(x.2.2.1.take (i + 1)).flatMap revE).length≤1099511627776:=by
   have h2:=HZ3.out
   have h3:=aL revE x.2.2.1 (i + 1)
   rw [List.length_append] at h2 ⊢
   omega
  rw [aA revE hx] at hxl
  obtain ⟨L0,hL0⟩:=gX (Q3++(x.2.2.1.take i).flatMap revE)
  obtain ⟨P11,hP11⟩:=gX (encN x1.1)
  have C11:Hid (∀ (W:World),Calls Tryz.prog 16 #[.int .i64 x1.1] W (StrE W P11)):=qH (fun W => by rw [hP11]; exact bm _ hx1 W)
  obtain ⟨P12,hP12⟩:=gX (strE x1.2.1)
  have C12:Hid (∀ (W:World),Calls Tryz.prog 68 #[.string x1.2.1] W (StrE W P12)):=qH (fun W => by rw [hP12]; exact txt68 _ W (by have:=hxl; simp only [revE,seqE,strE,textE,List.length_append,ap] at this; omega))
  obtain ⟨P13,hP13⟩:=gX (encN x1.2.2)
  have C13:Hid (∀ (W:World),Calls Tryz.prog 16 #[.int .i64 x1.2.2] W (StrE W P13)):=qH (fun W => by rw [hP13]; exact bm _ hx3 W)
  have HT:Hid (L0++P11++P12++P13 = Q3++(x.2.2.1.take (i + 1)).flatMap revE):=qH (by
   rw [aA revE hx,<- List.append_assoc,<- hL0,hP11,hP12,hP13]
   simp [revE,seqE])
  have hll:(L0++P11++P12++P13).length≤1099511627776:=by rw [HT.out,aA revE hx]; exact hxl
  obtain ⟨Q1,hQ1⟩:=gX (L0++P11)
  have ka11:=addL L0 P11 (by simp only [List.length_append] at hll ⊢; omega)
  rw [<- hQ1] at ka11
  obtain ⟨Q2,hQ2⟩:=gX (Q1++P12)
  have ka12:=addL Q1 P12 (by rw [hQ1]; simp only [List.length_append] at hll ⊢; omega)
  rw [<- hQ2] at ka12
  obtain ⟨Q3,hQ3⟩:=gX (Q2++P13)
  have ka13:=addL Q2 P13 (by rw [hQ2,hQ1]; simp only [List.length_append] at hll ⊢; omega)
  rw [<- hQ3] at ka13
  rw [<- hQ1,<- hQ2,<- hQ3] at HT
  rw [<- hL0]
  clear hx hcs hgb hbw0 hL0 hP11 hP12 hP13 hQ1 hQ2 hQ3 hll hxl
  go_upto_region 5 with fail
  replace hE:=hE.drew
  replace HB:=qH HB.out.drew
  have hX0:wr.drew.heap[w.heap.size]? = some (.cells #[.slice fA fn fc,h0,h1,h2,h3,h4,.slice (some ⟨b,o,none⟩) rn rc,s0,s1,s2,s3] 49 (0,0)):=HX.out
  clear cb HX
  refine ak (S:=fun w' => w'.heap[w.heap.size]? = some (.cells #[.slice fA fn fc,h0,h1,h2,h3,h4,.slice (some ⟨b,o,none⟩) rn rc,s0,s1,s2,s3] 49 (0,0))∧EltS b (o + i * 3) [.int .i64 x1.1,.string x1.2.1,.int .i64 x1.2.2] w') [(true,0),(true,1),(true,2),(true,3),(true,4),(true,5),(true,6),(true,9),(true,10),(true,11),(true,12),(true,13),(true,14),(true,17),(true,18),(true,19),(true,20),(true,21),(true,22),(false,7),(true,8),(false,15),(true,16),(false,23),(true,24),(true,25)] (by kernel_rfl) (by kernel_rfl) ⟨hX0,hE⟩ ?_
  simp only [aF,List.getElem?_cons_succ,List.getElem?_cons_zero]
  refine sq2 (.string (mkB (L0))) ?_
  refine sq2p (w.heap.size) 6 ?_
  refine sq2 (.slice (some ⟨b,o,none⟩) rn rc) ?_ (fun w' hS => by have q0:=aa hS.1 6; go_simp)
  refine sq2i (i:Int) ?_
  refine sq2p b (o + i * 3) ?_
  refine sq2p b (o + i * 3) ?_
  refine sq2i (x1.1) ?_ (fun w' hS => by have q0:=hS.2 0 (.int .i64 x1.1) rfl; simp only [Nat.add_zero] at q0; go_simp)
  refine sq2p (w.heap.size) 6 ?_
  refine sq2 (.slice (some ⟨b,o,none⟩) rn rc) ?_ (fun w' hS => by have q0:=aa hS.1 6; go_simp)
  refine sq2i (i:Int) ?_
  refine sq2p b (o + i * 3) ?_
  refine sq2p b (o + i * 3 + 1) ?_
  refine sq2 (.string x1.2.1) ?_ (fun w' hS => by have q0:=hS.2 1 (.string x1.2.1) rfl; go_simp)
  refine sq2p (w.heap.size) 6 ?_
  refine sq2 (.slice (some ⟨b,o,none⟩) rn rc) ?_ (fun w' hS => by have q0:=aa hS.1 6; go_simp)
  refine sq2i (i:Int) ?_
  refine sq2p b (o + i * 3) ?_
  refine sq2p b (o + i * 3 + 2) ?_
  refine sq2i (x1.2.2) ?_ (fun w' hS => by have q0:=hS.2 2 (.int .i64 x1.2.2) rfl; go_simp)
  refine ae 16 #[.int .i64 x1.1] (by go_simp) ?_
  refine Calls.mono (C11.out _) ?_
  rintro e wx11 ⟨rfl,hb11⟩
  replace hX0:=(hb11.block _ (ac hX0)).trans hX0
  replace hE:=hE.below hbw hb11
  replace hbw:=Nat.lt_of_lt_of_le hbw hb11.size
  replace HB:=qH (HB.out.trans (hb11.mono HB.out.size))
  clear hb11
  refine ⟨_,rfl,⟨hX0,hE⟩,?_⟩
  simp only [Act.put,PutA,PutZ,PutS]
  refine sq2 (.string (mkB (Q1))) ?_
  refine ae 68 #[.string x1.2.1] (by go_simp) ?_
  refine Calls.mono (C12.out _) ?_
  rintro e wx12 ⟨rfl,hb12⟩
  replace hX0:=(hb12.block _ (ac hX0)).trans hX0
  replace hE:=hE.below hbw hb12
  replace hbw:=Nat.lt_of_lt_of_le hbw hb12.size
  replace HB:=qH (HB.out.trans (hb12.mono HB.out.size))
  clear hb12
  refine ⟨_,rfl,⟨hX0,hE⟩,?_⟩
  simp only [Act.put,PutA,PutZ,PutS]
  refine sq2 (.string (mkB (Q2))) ?_
  refine ae 16 #[.int .i64 x1.2.2] (by go_simp) ?_
  refine Calls.mono (C13.out _) ?_
  rintro e wx13 ⟨rfl,hb13⟩
  replace hX0:=(hb13.block _ (ac hX0)).trans hX0
  replace hE:=hE.below hbw hb13
  replace hbw:=Nat.lt_of_lt_of_le hbw hb13.size
  replace HB:=qH (HB.out.trans (hb13.mono HB.out.size))
  clear hb13
  refine ⟨_,rfl,⟨hX0,hE⟩,?_⟩
  simp only [Act.put,PutA,PutZ,PutS]
  refine sq2 (.string (mkB (Q3))) ?_
  refine sq2 (.string (mkB (Q3))) ?_
  refine ad ?_
  have HX:=qH hX0
  clear hX0 hE ka11 C11 ka12 C12 ka13 C13
  go_wp2_with fail
  go_roundw
  case rel => exact ⟨i + 1,by go_num,by omega,by rw [HT.out],HB,HX⟩
  simp [intOf]; omega
 have hii:i = rn:=by omega
 have hlt':¬ (i:Int) < (rn:Int):=by omega
 have etk:x.2.2.1.take i = x.2.2.1:=List.take_of_length_le (by rw [<- HNr.out,hii]; exact Nat.le_refl _)
 obtain ⟨S7,hS7⟩:=gX (Q3++(x.2.2.1.take i).flatMap revE)
 rw [<- hS7]
 rw [etk] at hS7
 have HS7:=qH hS7
 clear etk hS7 hii
 obtain ⟨P9,hP9⟩:=gX (stgE x.2.2.2)
 have hzz:=HZ.out
 rw [<- HS7.out,<- hP9] at hzz
 have C9:Hid (∀ (W:World),Below w.heap.size w W→Calls Tryz.prog 86 #[.agg #[s0,s1,s2,s3]] W (StrE W P9)):=qH (fun W hW => by rw [hP9]; exact str_settings G W [s0,s1,s2,s3] _ (Rp.below stb_stg HST.out HGG.out hW) (fun b h => Nat.lt_of_lt_of_le (HGG.out b h) hW.size) (by rw [<- hP9]; simp only [List.length_append] at hzz; omega))
 have ka:=addL S7 P9 (by simp only [List.length_append] at hzz; omega)
 have HE:Hid (S7++P9 = RR):=qH (by rw [HS7.out,hP9,HRR.out])
 clear hzz hP9
 have q7:=aa HX.out 7
 have q8:=aa HX.out 8
 have q9:=aa HX.out 9
 have q10:=aa HX.out 10
 go_wp2_with fail
 refine (C9.out _ HB.out).mono ?_
 rintro e w9 ⟨rfl,hb9⟩
 replace HB:=qH (HB.out.trans (hb9.mono HB.out.size))
 clear hb9 C9 q7 q8 q9 q10
 go_wp2_with fail
 go_ret
 exact ⟨by rw [<- HE.out]; rfl,HB.out⟩
end Go.Proofs.YtmhhcfceikcfbaaGreat
