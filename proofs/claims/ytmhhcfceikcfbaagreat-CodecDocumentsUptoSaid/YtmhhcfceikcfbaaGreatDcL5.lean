/- Walks: the law's bytes of cells and rows. -/
import Derived.Test.YtmhhcfceikcfbaaGreatDcL4
namespace Go.Proofs.YtmhhcfceikcfbaaGreat
open Go.RowKit
set_option maxRecDepth 100000
set_option maxHeartbeats 4000000
theorem str_cells {α:Type} (R:Rp α) (e:α→List Nat) (hR:Stb R) (HI:ItemsS R e) (G:Nat→Prop) (w:World) (v:Value) (l:List (Int × Hd × List α)) (hv:Slv (ceP R) 7 w G v l) (hG:∀ b,G b→b < w.heap.size) (hz:(aj (ceE e) l).length≤1099511627776) :
  Calls Tryz.prog 85 #[v] w (StrE w (aj (ceE e) l)):=by
 obtain ⟨A,cp,hsl,hlc,hcm⟩:=hv.shape
 subst hsl
 obtain ⟨n,hn⟩:=gX (l.length)
 unfold maxLen at hcm
 have HV:=qH hv
 have CN:=qH (bm (l.length:Int) (by unfold I64; omega) w)
 have HZ:Hid ((encN (l.length:Int)++l.flatMap (ceE e)).length≤1099511627776):=qH hz
 have hE0:aj (ceE e) l = encN (l.length:Int)++l.flatMap (ceE e):=rfl
 rw [hE0]
 rw [<- hn] at CN HZ ⊢
 have HN:=qH hn
 have hnn:n≤9223372036854775807:=by omega
 clear hv hz hE0 hlc hn
 go_enter Tryz.func85,Tryz.ntmps85
 go_wp2_with fail
 refine CN.out.mono ?_
 rintro e w1 ⟨rfl,hb1⟩
 have HB1:=qH hb1
 clear hb1 CN
 go_wp2_with fail
 go_loopw [3,4] (fun sv iv wr => ∃ i:Nat,iv = .int .i64 (i:Int)∧i≤n∧sv = .string (mkB (encN (n:Int)++(l.take i).flatMap (ceE e)))∧Hid (Below w.heap.size w wr)) (fun _ iv _ => n - (intOf iv).toNat)
 case atStart => exact ⟨0,rfl,Nat.zero_le _,by simp,HB1⟩
 obtain ⟨i,rfl,hin,rfl,HB⟩:=hrel
 clear HB1
 by_cases hlt:i < n
 ·have hlt':(i:Int) < (n:Int):=by omega
  obtain ⟨x,hx⟩:∃ x,l[i]? = some x:=⟨_,List.getElem?_eq_getElem (by rw [<- HN.out]; exact hlt)⟩
  obtain ⟨b,o,vs,rfl,hgb,hbw0,hvl,hRx,hcs⟩:=HV.out.at i x hx
  have hE:EltS b (o + i * 7) vs wr:=EltS.below (w:=w) hcs hbw0 HB.out
  have hbw:b < wr.heap.size:=Nat.lt_of_lt_of_le hbw0 HB.out.size
  obtain ⟨h0,h1,h2,h3,h4,fv,rfl,hx1,hH,hF⟩:=hRx
  have hxl:(ceE e x).length≤1099511627776:=by
   have h2:=HZ.out
   have h3:=aL (ceE e) l (i + 1)
   rw [aA (ceE e) hx] at h3
   simp only [List.length_append] at h2 h3
   omega
  obtain ⟨L0,hL0⟩:=gX (encN (n:Int)++(l.take i).flatMap (ceE e))
  obtain ⟨P1,hP1⟩:=gX (encN x.1)
  have C1:Hid (∀ (W:World),Calls Tryz.prog 16 #[.int .i64 x.1] W (StrE W P1)):=qH (fun W => by rw [hP1]; exact bm x.1 hx1 W)
  obtain ⟨P2,hP2⟩:=gX (hdE x.2.1)
  have C2:Hid (∀ (W:World),Below w.heap.size w W→Calls Tryz.prog 69 #[.agg #[h0,h1,h2,h3,h4]] W (StrE W P2)):=qH (fun W hW => by rw [hP2]; exact str_head G W _ x.2.1 (Rp.below aK hH hG hW) (fun b h => Nat.lt_of_lt_of_le (hG b h) hW.size) (by have:=hxl; simp only [ceE,seqE,List.length_append] at this; omega))
  obtain ⟨P3,hP3⟩:=gX (aj e x.2.2)
  have C3:Hid (∀ (W:World),Below w.heap.size w W→Calls Tryz.prog 25 #[fv] W (StrE W P3)):=qH (fun W hW => by rw [hP3]; exact HI G W fv x.2.2 (hF.below hR hG hW) (fun b h => Nat.lt_of_lt_of_le (hG b h) hW.size) (by have:=hxl; simp only [ceE,seqE,List.length_append] at this; omega))
  have HT:Hid (L0++P1++P2++P3 = encN (n:Int)++(l.take (i + 1)).flatMap (ceE e)):=qH (by
   rw [aA (ceE e) hx,<- List.append_assoc,<- hL0,hP1,hP2,hP3]
   simp [ceE,seqE])
  have hll:(L0++P1++P2++P3).length≤1099511627776:=by
   rw [HT.out]
   have h2:=HZ.out
   have h3:=aL (ceE e) l (i + 1)
   rw [List.length_append] at h2 ⊢
   omega
  obtain ⟨Q1,hQ1⟩:=gX (L0++P1)
  have ka1:=addL L0 P1 (by simp only [List.length_append] at hll ⊢; omega)
  rw [<- hQ1] at ka1
  obtain ⟨Q2,hQ2⟩:=gX (Q1++P2)
  have ka2:=addL Q1 P2 (by rw [hQ1]; simp only [List.length_append] at hll ⊢; omega)
  rw [<- hQ2] at ka2
  obtain ⟨Q3,hQ3⟩:=gX (Q2++P3)
  have ka3:=addL Q2 P3 (by rw [hQ2,hQ1]; simp only [List.length_append] at hll ⊢; omega)
  rw [<- hQ3] at ka3
  rw [<- hQ1,<- hQ2,<- hQ3] at HT
  rw [<- hL0]
  clear hxl hx hcs hgb hbw0 hL0 hP1 hP2 hP3 hQ1 hQ2 hQ3 hll
  go_upto_region 5 with fail
  replace hE:=hE.drew
  replace HB:=qH HB.out.drew
  refine ak (S:=EltS b (o + i * 7) [.int .i64 x.1,h0,h1,h2,h3,h4,fv]) [(true,0),(true,1),(true,2),(true,3),(true,4),(true,5),(true,8),(true,9),(true,10),(true,11),(true,12),(true,15),(true,16),(true,17),(true,18),(true,19),(false,6),(true,7),(false,13),(true,14),(false,20),(true,21),(true,22)] (by kernel_rfl) (by kernel_rfl) hE ?_
  simp only [aF,List.getElem?_cons_succ,List.getElem?_cons_zero]
  refine sq2 (.string (mkB (L0))) ?_
  refine sq2 (.slice (some ⟨b,o,none⟩) n cp) ?_
  refine sq2i (i:Int) ?_
  refine sq2p b (o + i * 7) ?_
  refine sq2p b (o + i * 7) ?_
  refine sq2i (x.1) ?_ (fun w' hS => by have q:=hS 0 (.int .i64 x.1) rfl; simp only [Nat.add_zero] at q; go_simp)
  refine sq2 (.slice (some ⟨b,o,none⟩) n cp) ?_
  refine sq2i (i:Int) ?_
  refine sq2p b (o + i * 7) ?_
  refine sq2p b (o + i * 7 + 1) ?_
  refine sq2 (.agg #[h0,h1,h2,h3,h4]) ?_ (fun w' hS => by have q0:=hS 1 (h0) rfl; have q1:=hS 2 (h1) rfl; have q2:=hS 3 (h2) rfl; have q3:=hS 4 (h3) rfl; have q4:=hS 5 (h4) rfl; go_simp)
  refine sq2 (.slice (some ⟨b,o,none⟩) n cp) ?_
  refine sq2i (i:Int) ?_
  refine sq2p b (o + i * 7) ?_
  refine sq2p b (o + i * 7 + 6) ?_
  refine sq2 (fv) ?_ (fun w' hS => by have q:=hS 6 (fv) rfl; go_simp)
  refine ae 16 #[.int .i64 x.1] (by go_simp) ?_
  refine Calls.mono (C1.out _) ?_
  rintro e wx1 ⟨rfl,hb1⟩
  replace hE:=hE.below hbw hb1
  replace HB:=qH (HB.out.trans (hb1.mono HB.out.size))
  replace hbw:=Nat.lt_of_lt_of_le hbw hb1.size
  clear hb1
  refine ⟨_,rfl,hE,?_⟩
  simp only [Act.put,PutA,PutZ,PutS]
  refine sq2 (.string (mkB (Q1))) ?_
  refine ae 69 #[.agg #[h0,h1,h2,h3,h4]] (by go_simp) ?_
  refine Calls.mono (C2.out _ HB.out) ?_
  rintro e wx2 ⟨rfl,hb2⟩
  replace hE:=hE.below hbw hb2
  replace HB:=qH (HB.out.trans (hb2.mono HB.out.size))
  replace hbw:=Nat.lt_of_lt_of_le hbw hb2.size
  clear hb2
  refine ⟨_,rfl,hE,?_⟩
  simp only [Act.put,PutA,PutZ,PutS]
  refine sq2 (.string (mkB (Q2))) ?_
  refine ae 25 #[fv] (by go_simp) ?_
  refine Calls.mono (C3.out _ HB.out) ?_
  rintro e wx3 ⟨rfl,hb3⟩
  replace hE:=hE.below hbw hb3
  replace HB:=qH (HB.out.trans (hb3.mono HB.out.size))
  replace hbw:=Nat.lt_of_lt_of_le hbw hb3.size
  clear hb3
  refine ⟨_,rfl,hE,?_⟩
  simp only [Act.put,PutA,PutZ,PutS]
  refine sq2 (.string (mkB (Q3))) ?_
  refine sq2 (.string (mkB (Q3))) ?_
  refine ad ?_
  clear ka1 ka2 ka3 C1 C2 C3 hE
  go_wp2_with fail
  go_roundw
  case rel => exact ⟨i + 1,by go_num,by omega,by rw [HT.out],HB⟩
  simp [intOf]; omega
 have hii:i = n:=by omega
 subst hii
 have hlt':¬ (i:Int) < (i:Int):=by omega
 have etk:l.take i = l:=List.take_of_length_le (by rw [<- HN.out]; exact Nat.le_refl _)
 have HE:Hid ((l.take i).flatMap (ceE e) = l.flatMap (ceE e)):=qH (by rw [etk])
 clear etk
 go_wp2_with fail
 go_ret
 exact ⟨by rw [HE.out]; rfl,HB.out⟩
theorem str_rows {α:Type} (R:Rp α) (e:α→List Nat) (hR:Stb R) (HI:ItemsS R e) (G:Nat→Prop) (w:World) (v:Value) (l:List (Hd × List (Int × Hd × List α))) (hv:Slv (rwP R) 6 w G v l) (hG:∀ b,G b→b < w.heap.size) (hz:(aj (rwE e) l).length≤1099511627776) :
  Calls Tryz.prog 70 #[v] w (StrE w (aj (rwE e) l)):=by
 obtain ⟨A,cp,hsl,hlc,hcm⟩:=hv.shape
 subst hsl
 obtain ⟨n,hn⟩:=gX (l.length)
 unfold maxLen at hcm
 have HV:=qH hv
 have CN:=qH (bm (l.length:Int) (by unfold I64; omega) w)
 have HZ:Hid ((encN (l.length:Int)++l.flatMap (rwE e)).length≤1099511627776):=qH hz
 have hE0:aj (rwE e) l = encN (l.length:Int)++l.flatMap (rwE e):=rfl
 rw [hE0]
 rw [<- hn] at CN HZ ⊢
 have HN:=qH hn
 have hnn:n≤9223372036854775807:=by omega
 clear hv hz hE0 hlc hn
 go_enter Tryz.func70,Tryz.ntmps70
 go_wp2_with fail
 refine CN.out.mono ?_
 rintro e w1 ⟨rfl,hb1⟩
 have HB1:=qH hb1
 clear hb1 CN
 go_wp2_with fail
 go_loopw [3,4] (fun sv iv wr => ∃ i:Nat,iv = .int .i64 (i:Int)∧i≤n∧sv = .string (mkB (encN (n:Int)++(l.take i).flatMap (rwE e)))∧Hid (Below w.heap.size w wr)) (fun _ iv _ => n - (intOf iv).toNat)
 case atStart => exact ⟨0,rfl,Nat.zero_le _,by simp,HB1⟩
 obtain ⟨i,rfl,hin,rfl,HB⟩:=hrel
 clear HB1
 by_cases hlt:i < n
 ·have hlt':(i:Int) < (n:Int):=by omega
  obtain ⟨x,hx⟩:∃ x,l[i]? = some x:=⟨_,List.getElem?_eq_getElem (by rw [<- HN.out]; exact hlt)⟩
  obtain ⟨b,o,vs,rfl,hgb,hbw0,hvl,hRx,hcs⟩:=HV.out.at i x hx
  have hE:EltS b (o + i * 6) vs wr:=EltS.below (w:=w) hcs hbw0 HB.out
  have hbw:b < wr.heap.size:=Nat.lt_of_lt_of_le hbw0 HB.out.size
  obtain ⟨h0,h1,h2,h3,h4,cv,rfl,hH,hF⟩:=hRx
  have hxl:(rwE e x).length≤1099511627776:=by
   have h2:=HZ.out
   have h3:=aL (rwE e) l (i + 1)
   rw [aA (rwE e) hx] at h3
   simp only [List.length_append] at h2 h3
   omega
  obtain ⟨L0,hL0⟩:=gX (encN (n:Int)++(l.take i).flatMap (rwE e))
  obtain ⟨P1,hP1⟩:=gX (hdE x.1)
  have C1:Hid (∀ (W:World),Below w.heap.size w W→Calls Tryz.prog 69 #[.agg #[h0,h1,h2,h3,h4]] W (StrE W P1)):=qH (fun W hW => by rw [hP1]; exact str_head G W _ x.1 (Rp.below aK hH hG hW) (fun b h => Nat.lt_of_lt_of_le (hG b h) hW.size) (by have:=hxl; simp only [rwE,seqE,List.length_append] at this; omega))
  obtain ⟨P2,hP2⟩:=gX (aj (ceE e) x.2)
  have C2:Hid (∀ (W:World),Below w.heap.size w W→Calls Tryz.prog 85 #[cv] W (StrE W P2)):=qH (fun W hW => by rw [hP2]; exact str_cells R e hR HI G W cv x.2 (hF.below (stb_ce hR) hG hW) (fun b h => Nat.lt_of_lt_of_le (hG b h) hW.size) (by have:=hxl; simp only [rwE,seqE,List.length_append] at this; omega))
  have HT:Hid (L0++P1++P2 = encN (n:Int)++(l.take (i + 1)).flatMap (rwE e)):=qH (by
   rw [aA (rwE e) hx,<- List.append_assoc,<- hL0,hP1,hP2]
   simp [rwE,seqE])
  have hll:(L0++P1++P2).length≤1099511627776:=by
   rw [HT.out]
   have h2:=HZ.out
   have h3:=aL (rwE e) l (i + 1)
   rw [List.length_append] at h2 ⊢
   omega
  obtain ⟨Q1,hQ1⟩:=gX (L0++P1)
  have ka1:=addL L0 P1 (by simp only [List.length_append] at hll ⊢; omega)
  rw [<- hQ1] at ka1
  obtain ⟨Q2,hQ2⟩:=gX (Q1++P2)
  have ka2:=addL Q1 P2 (by rw [hQ1]; simp only [List.length_append] at hll ⊢; omega)
  rw [<- hQ2] at ka2
  rw [<- hQ1,<- hQ2] at HT
  rw [<- hL0]
  clear hxl hx hcs hgb hbw0 hL0 hP1 hP2 hQ1 hQ2 hll
  go_upto_region 5 with fail
  replace hE:=hE.drew
  replace HB:=qH HB.out.drew
  refine ak (S:=EltS b (o + i * 6) [h0,h1,h2,h3,h4,cv]) [(true,0),(true,1),(true,2),(true,3),(true,4),(true,5),(true,8),(true,9),(true,10),(true,11),(true,12),(false,6),(true,7),(false,13),(true,14),(true,15)] (by kernel_rfl) (by kernel_rfl) hE ?_
  simp only [aF,List.getElem?_cons_succ,List.getElem?_cons_zero]
  refine sq2 (.string (mkB (L0))) ?_
  refine sq2 (.slice (some ⟨b,o,none⟩) n cp) ?_
  refine sq2i (i:Int) ?_
  refine sq2p b (o + i * 6) ?_
  refine sq2p b (o + i * 6) ?_
  refine sq2 (.agg #[h0,h1,h2,h3,h4]) ?_ (fun w' hS => by have q0:=hS 0 (h0) rfl; have q1:=hS 1 (h1) rfl; have q2:=hS 2 (h2) rfl; have q3:=hS 3 (h3) rfl; have q4:=hS 4 (h4) rfl; simp only [Nat.add_zero] at q0; go_simp)
  refine sq2 (.slice (some ⟨b,o,none⟩) n cp) ?_
  refine sq2i (i:Int) ?_
  refine sq2p b (o + i * 6) ?_
  refine sq2p b (o + i * 6 + 5) ?_
  refine sq2 (cv) ?_ (fun w' hS => by have q:=hS 5 (cv) rfl; go_simp)
  refine ae 69 #[.agg #[h0,h1,h2,h3,h4]] (by go_simp) ?_
  refine Calls.mono (C1.out _ HB.out) ?_
  rintro e wx1 ⟨rfl,hb1⟩
  replace hE:=hE.below hbw hb1
  replace HB:=qH (HB.out.trans (hb1.mono HB.out.size))
  replace hbw:=Nat.lt_of_lt_of_le hbw hb1.size
  clear hb1
  refine ⟨_,rfl,hE,?_⟩
  simp only [Act.put,PutA,PutZ,PutS]
  refine sq2 (.string (mkB (Q1))) ?_
  refine ae 85 #[cv] (by go_simp) ?_
  refine Calls.mono (C2.out _ HB.out) ?_
  rintro e wx2 ⟨rfl,hb2⟩
  replace hE:=hE.below hbw hb2
  replace HB:=qH (HB.out.trans (hb2.mono HB.out.size))
  replace hbw:=Nat.lt_of_lt_of_le hbw hb2.size
  clear hb2
  refine ⟨_,rfl,hE,?_⟩
  simp only [Act.put,PutA,PutZ,PutS]
  refine sq2 (.string (mkB (Q2))) ?_
  refine sq2 (.string (mkB (Q2))) ?_
  refine ad ?_
  clear ka1 ka2 C1 C2 hE
  go_wp2_with fail
  go_roundw
  case rel => exact ⟨i + 1,by go_num,by omega,by rw [HT.out],HB⟩
  simp [intOf]; omega
 have hii:i = n:=by omega
 subst hii
 have hlt':¬ (i:Int) < (i:Int):=by omega
 have etk:l.take i = l:=List.take_of_length_le (by rw [<- HN.out]; exact Nat.le_refl _)
 have HE:Hid ((l.take i).flatMap (rwE e) = l.flatMap (rwE e)):=qH (by rw [etk])
 clear etk
 go_wp2_with fail
 go_ret
 exact ⟨by rw [HE.out]; rfl,HB.out⟩
theorem str_items_step {α:Type} (R:Rp α) (e:α→List Nat) (hR:Stb R) (HI:ItemsS R e) (G:Nat→Prop) (w:World) (v:Value) (l:List (ItS α)) (hv:Slv (isP R) 11 w G v l) (hG:∀ b,G b→b < w.heap.size) (hz:(aj (isE e) l).length≤1099511627776) :
  Calls Tryz.prog 25 #[v] w (StrE w (aj (isE e) l)):=by
 obtain ⟨A,cp,hsl,hlc,hcm⟩:=hv.shape
 subst hsl
 obtain ⟨n,hn⟩:=gX (l.length)
 unfold maxLen at hcm
 have HV:=qH hv
 have CN:=qH (bm (l.length:Int) (by unfold I64; omega) w)
 have HZ:Hid ((encN (l.length:Int)++l.flatMap (isE e)).length≤1099511627776):=qH hz
 have hE0:aj (isE e) l = encN (l.length:Int)++l.flatMap (isE e):=rfl
 rw [hE0]
 rw [<- hn] at CN HZ ⊢
 have HN:=qH hn
 have hnn:n≤9223372036854775807:=by omega
 clear hv hz hE0 hlc hn
 go_enter Tryz.func25,Tryz.ntmps25
 go_wp2_with fail
 refine CN.out.mono ?_
 rintro e w1 ⟨rfl,hb1⟩
 have HB1:=qH hb1
 clear hb1 CN
 go_wp2_with fail
 go_loopw [3,4] (fun sv iv wr => ∃ i:Nat,iv = .int .i64 (i:Int)∧i≤n∧sv = .string (mkB (encN (n:Int)++(l.take i).flatMap (isE e)))∧Hid (Below w.heap.size w wr)) (fun _ iv _ => n - (intOf iv).toNat)
 case atStart => exact ⟨0,rfl,Nat.zero_le _,by simp,HB1⟩
 obtain ⟨i,rfl,hin,rfl,HB⟩:=hrel
 clear HB1
 by_cases hlt:i < n
 ·have hlt':(i:Int) < (n:Int):=by omega
  obtain ⟨x,hx⟩:∃ x,l[i]? = some x:=⟨_,List.getElem?_eq_getElem (by rw [<- HN.out]; exact hlt)⟩
  obtain ⟨b,o,vs,rfl,hgb,hbw0,hvl,hRx,hcs⟩:=HV.out.at i x hx
  have hE:EltS b (o + i * 11) vs wr:=EltS.below (w:=w) hcs hbw0 HB.out
  have hbw:b < wr.heap.size:=Nat.lt_of_lt_of_le hbw0 HB.out.size
  have h1:vs.toArray.all (·.oneCell') = true:=by
   rw [Array.all_eq_true']
   intro u hu
   exact one_is w G vs x hRx u (by simpa using hu)
  obtain ⟨h0,h1x,h2,h3,h4,fv,rv,rfl,⟨hx1,hx2,hx3,hx4⟩,hH,hF,hR2⟩:=hRx
  have hxl:(isE e x).length≤1099511627776:=by
   have h2:=HZ.out
   have h3:=aL (isE e) l (i + 1)
   rw [aA (isE e) hx] at h3
   simp only [List.length_append] at h2 h3
   omega
  obtain ⟨L0,hL0⟩:=gX (encN (n:Int)++(l.take i).flatMap (isE e))
  obtain ⟨P1,hP1⟩:=gX ([x.1,x.2.1,x.2.2.1].flatMap encN)
  have C1:Hid (∀ (W:World) (g:Nat),(∀ (j:Nat) (y:Int),[x.1,x.2.1,x.2.2.1][j]? = some y→W.cell? ⟨g,j,none⟩ = some (.int .i64 y))→Calls Tryz.prog 67 #[.slice (some ⟨g,0,none⟩) 3 3] W (StrE W P1)):=qH (fun W g h => by rw [hP1]; exact nums67 [x.1,x.2.1,x.2.2.1] g 3 W h (by simp only [List.mem_cons,List.not_mem_nil,or_false]; rintro m (rfl | rfl | rfl) <;> assumption) (by simp))
  obtain ⟨P2,hP2⟩:=gX (strE x.2.2.2.1)
  have C2:Hid (∀ (W:World),Calls Tryz.prog 68 #[.string x.2.2.2.1] W (StrE W P2)):=qH (fun W => by rw [hP2]; exact txt68 x.2.2.2.1 W (by have:=hxl; simp only [isE,seqE,strE,textE,List.length_append,ap] at this; omega))
  obtain ⟨P3,hP3⟩:=gX (hdE x.2.2.2.2.1)
  have C3:Hid (∀ (W:World),Below w.heap.size w W→Calls Tryz.prog 69 #[.agg #[h0,h1x,h2,h3,h4]] W (StrE W P3)):=qH (fun W hW => by rw [hP3]; exact str_head G W _ x.2.2.2.2.1 (Rp.below aK hH hG hW) (fun b h => Nat.lt_of_lt_of_le (hG b h) hW.size) (by have:=hxl; simp only [isE,seqE,List.length_append] at this; omega))
  obtain ⟨P4,hP4⟩:=gX (aj e x.2.2.2.2.2.1)
  have C4:Hid (∀ (W:World),Below w.heap.size w W→Calls Tryz.prog 25 #[fv] W (StrE W P4)):=qH (fun W hW => by rw [hP4]; exact HI G W fv x.2.2.2.2.2.1 (hF.below hR hG hW) (fun b h => Nat.lt_of_lt_of_le (hG b h) hW.size) (by have:=hxl; simp only [isE,seqE,List.length_append] at this; omega))
  obtain ⟨P5,hP5⟩:=gX (aj (rwE e) x.2.2.2.2.2.2)
  have C5:Hid (∀ (W:World),Below w.heap.size w W→Calls Tryz.prog 70 #[rv] W (StrE W P5)):=qH (fun W hW => by rw [hP5]; exact str_rows R e hR HI G W rv x.2.2.2.2.2.2 (hR2.below (bF hR) hG hW) (fun b h => Nat.lt_of_lt_of_le (hG b h) hW.size) (by have:=hxl; simp only [isE,seqE,List.length_append] at this; omega))
  have HT:Hid (L0++P1++P2++P3++P4++P5 = encN (n:Int)++(l.take (i + 1)).flatMap (isE e)):=qH (by
   rw [aA (isE e) hx,<- List.append_assoc,<- hL0,hP1,hP2,hP3,hP4,hP5]
   simp [isE,seqE])
  have hll:(L0++P1++P2++P3++P4++P5).length≤1099511627776:=by
   rw [HT.out]
   have h2:=HZ.out
   have h3:=aL (isE e) l (i + 1)
   rw [List.length_append] at h2 ⊢
   omega
  obtain ⟨Q1,hQ1⟩:=gX (L0++P1)
  have ka1:=addL L0 P1 (by simp only [List.length_append] at hll ⊢; omega)
  rw [<- hQ1] at ka1
  obtain ⟨Q2,hQ2⟩:=gX (Q1++P2)
  have ka2:=addL Q1 P2 (by rw [hQ1]; simp only [List.length_append] at hll ⊢; omega)
  rw [<- hQ2] at ka2
  obtain ⟨Q3,hQ3⟩:=gX (Q2++P3)
  have ka3:=addL Q2 P3 (by rw [hQ2,hQ1]; simp only [List.length_append] at hll ⊢; omega)
  rw [<- hQ3] at ka3
  obtain ⟨Q4,hQ4⟩:=gX (Q3++P4)
  have ka4:=addL Q3 P4 (by rw [hQ3,hQ2,hQ1]; simp only [List.length_append] at hll ⊢; omega)
  rw [<- hQ4] at ka4
  obtain ⟨Q5,hQ5⟩:=gX (Q4++P5)
  have ka5:=addL Q4 P5 (by rw [hQ4,hQ3,hQ2,hQ1]; simp only [List.length_append] at hll ⊢; omega)
  rw [<- hQ5] at ka5
  rw [<- hQ1,<- hQ2,<- hQ3,<- hQ4,<- hQ5] at HT
  rw [<- hL0]
  clear hxl hx hcs hgb hbw0 hL0 hP1 hP2 hP3 hP4 hP5 hQ1 hQ2 hQ3 hQ4 hQ5 hll
  have e0:=hE 0 (.int .i64 x.1) rfl
  simp only [Nat.add_zero] at e0
  have e1:=hE 1 (.int .i64 x.2.1) rfl
  have e2:=hE 2 (.int .i64 x.2.2.1) rfl
  have e3:=hE 3 (.string x.2.2.2.1) rfl
  have e4:=hE 4 (h0) rfl
  have e5:=hE 5 (h1x) rfl
  have e6:=hE 6 (h2) rfl
  have e7:=hE 7 (h3) rfl
  have e8:=hE 8 (h4) rfl
  have e9:=hE 9 (fv) rfl
  have e10:=hE 10 (rv) rfl
  go_upto_region 6 with (refine wpList_store_row rfl 53 _ _ rfl wr.heap.size #[.int .i64 x.1,.int .i64 x.2.1,.int .i64 x.2.2.1,.string x.2.2.2.1,h0,h1x,h2,h3,h4,fv,rv] rfl rfl 53 _ (heap_alloc_new _ _) size53 rfl h1 ?_; rw [ar])
  clear hE h1 e0 e1 e2 e3 e4 e5 e6 e7 e8 e9 e10
  obtain ⟨q,hq⟩:=gX (wr.heap.size)
  obtain ⟨wy,hwy⟩:=gX (wr.alloc (.cells #[.int .i64 x.1,.int .i64 x.2.1,.int .i64 x.2.2.1,.string x.2.2.2.1,h0,h1x,h2,h3,h4,fv,rv] 53))
  have hE:wy.heap[q]? = some (.cells #[.int .i64 x.1,.int .i64 x.2.1,.int .i64 x.2.2.1,.string x.2.2.2.1,h0,h1x,h2,h3,h4,fv,rv] 53 (0,0)):=by rw [hwy,hq]; exact heap_alloc_new wr _
  replace HB:Hid (Below w.heap.size w wy.drew):=qH (by rw [hwy]; exact (HB.out.alloc HB.out.size _).drew)
  rw [<- hwy]
  rw [<- hq]
  replace hE:wy.drew.heap[q]? = some _:=hE
  clear hwy hq
  refine ak (S:=fun w' => w'.heap[q]? = some (.cells #[.int .i64 x.1,.int .i64 x.2.1,.int .i64 x.2.2.1,.string x.2.2.2.1,h0,h1x,h2,h3,h4,fv,rv] 53 (0,0))) [(true,0),(true,1),(true,2),(true,3),(true,4),(true,5),(true,6),(true,10),(true,11),(true,14),(true,15),(true,18),(true,19),(true,22),(true,23),(false,7),(false,8),(true,9),(false,12),(true,13),(false,16),(true,17),(false,20),(true,21),(false,24),(true,25),(true,26)] (by kernel_rfl) (by kernel_rfl) hE ?_
  simp only [aF,List.getElem?_cons_succ,List.getElem?_cons_zero]
  refine sq2 (.string (mkB (L0))) ?_
  refine sq2p q 0 ?_
  refine sq2i (x.1) ?_ (fun w' hS => by have q9:=aa hS 0; go_simp)
  refine sq2p q 1 ?_
  refine sq2i (x.2.1) ?_ (fun w' hS => by have q9:=aa hS 1; go_simp)
  refine sq2p q 2 ?_
  refine sq2i (x.2.2.1) ?_ (fun w' hS => by have q9:=aa hS 2; go_simp)
  refine sq2p q 3 ?_
  refine sq2 (.string x.2.2.2.1) ?_ (fun w' hS => by have q9:=aa hS 3; go_simp)
  refine sq2p q 4 ?_
  refine sq2 (.agg #[h0,h1x,h2,h3,h4]) ?_ (fun w' hS => by have q0:=aa hS 4; have q1:=aa hS 5; have q2:=aa hS 6; have q3:=aa hS 7; have q4:=aa hS 8; go_simp)
  refine sq2p q 9 ?_
  refine sq2 (fv) ?_ (fun w' hS => by have q9:=aa hS 9; go_simp)
  refine sq2p q 10 ?_
  refine sq2 (rv) ?_ (fun w' hS => by have q9:=aa hS 10; go_simp)
  refine aq (.slice (some ⟨wy.heap.size,0,none⟩) 3 3) (wy.drew.alloc (.cells #[.int .i64 x.1,.int .i64 x.2.1,.int .i64 x.2.2.1] 3)) (by go_simp) ?_ ?_
  ·exact (Below.heap_alloc _ _ _ (ac hE)).trans hE
  simp only [Act.put,PutA,PutZ,PutS]
  refine ae 67 #[.slice (some ⟨wy.heap.size,0,none⟩) 3 3] (by go_simp) ?_
  refine Calls.mono (C1.out _ wy.heap.size (fun j x hj => (aa (heap_alloc_new _ _) j).trans (by rw [List.getElem?_toArray]; exact bj hj))) ?_
  rintro e wx1 ⟨rfl,hb1⟩
  replace hb1:=((Below.refl _ _).alloc (Nat.le_refl _) (.cells #[.int .i64 x.1,.int .i64 x.2.1,.int .i64 x.2.2.1] 3)).trans (hb1.mono (by simp))
  replace hE:=(hb1.block _ (ac hE)).trans hE
  replace HB:=qH (HB.out.trans (hb1.mono HB.out.size))
  clear hb1
  refine ⟨_,rfl,hE,?_⟩
  simp only [Act.put,PutA,PutZ,PutS]
  refine sq2 (.string (mkB (Q1))) ?_
  refine ae 68 #[.string x.2.2.2.1] (by go_simp) ?_
  refine Calls.mono (C2.out _) ?_
  rintro e wx2 ⟨rfl,hb2⟩
  replace hE:=(hb2.block _ (ac hE)).trans hE
  replace HB:=qH (HB.out.trans (hb2.mono HB.out.size))
  clear hb2
  refine ⟨_,rfl,hE,?_⟩
  simp only [Act.put,PutA,PutZ,PutS]
  refine sq2 (.string (mkB (Q2))) ?_
  refine ae 69 #[.agg #[h0,h1x,h2,h3,h4]] (by go_simp) ?_
  refine Calls.mono (C3.out _ HB.out) ?_
  rintro e wx3 ⟨rfl,hb3⟩
  replace hE:=(hb3.block _ (ac hE)).trans hE
  replace HB:=qH (HB.out.trans (hb3.mono HB.out.size))
  clear hb3
  refine ⟨_,rfl,hE,?_⟩
  simp only [Act.put,PutA,PutZ,PutS]
  refine sq2 (.string (mkB (Q3))) ?_
  refine ae 25 #[fv] (by go_simp) ?_
  refine Calls.mono (C4.out _ HB.out) ?_
  rintro e wx4 ⟨rfl,hb4⟩
  replace hE:=(hb4.block _ (ac hE)).trans hE
  replace HB:=qH (HB.out.trans (hb4.mono HB.out.size))
  clear hb4
  refine ⟨_,rfl,hE,?_⟩
  simp only [Act.put,PutA,PutZ,PutS]
  refine sq2 (.string (mkB (Q4))) ?_
  refine ae 70 #[rv] (by go_simp) ?_
  refine Calls.mono (C5.out _ HB.out) ?_
  rintro e wx5 ⟨rfl,hb5⟩
  replace hE:=(hb5.block _ (ac hE)).trans hE
  replace HB:=qH (HB.out.trans (hb5.mono HB.out.size))
  clear hb5
  refine ⟨_,rfl,hE,?_⟩
  simp only [Act.put,PutA,PutZ,PutS]
  refine sq2 (.string (mkB (Q5))) ?_
  refine sq2 (.string (mkB (Q5))) ?_
  refine ad ?_
  clear ka1 ka2 ka3 ka4 ka5 C1 C2 C3 C4 C5 hE
  go_wp2_with fail
  go_roundw
  case rel => exact ⟨i + 1,by go_num,by omega,by rw [HT.out],HB⟩
  simp [intOf]; omega
 have hii:i = n:=by omega
 subst hii
 have hlt':¬ (i:Int) < (i:Int):=by omega
 have etk:l.take i = l:=List.take_of_length_le (by rw [<- HN.out]; exact Nat.le_refl _)
 have HE:Hid ((l.take i).flatMap (isE e) = l.flatMap (isE e)):=qH (by rw [etk])
 clear etk
 go_wp2_with fail
 go_ret
 exact ⟨by rw [HE.out]; rfl,HB.out⟩
end Go.Proofs.YtmhhcfceikcfbaaGreat
