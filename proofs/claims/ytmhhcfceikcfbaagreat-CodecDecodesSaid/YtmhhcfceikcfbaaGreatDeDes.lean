/- Walk: the law on documents' bytes. -/
import Derived.Test.YtmhhcfceikcfbaaGreatDeQ3
namespace Go.Proofs.YtmhhcfceikcfbaaGreat
open Go.RowKit
set_option maxRecDepth 100000
set_option maxHeartbeats 4000000
abbrev qA (t:ByteArray):Bool:=decide (t.size < 4) && (t.toList == (obl.extract 0 t.size).toList)
abbrev qB (t:ByteArray):Bool:=decide (t.size < 4) || !((t.extract 0 4).toList == obl.toList)
theorem obl_list:obl.toList = [79,66,76,49]:=by rw [ByteArray.toList_eq]
theorem pfx_obl {t:ByteArray} (h:t.size < 4):pfxB obl t = (t.toList == (obl.extract 0 t.size).toList):=by
 unfold pfxB
 rw [if_pos (show t.size≤obl.size by show t.size≤4; omega)]
 rw [Bool.eq_iff_iff,beq_iff_eq,beq_iff_eq]
 exact eq_comm
theorem rd_a {α:Type} (p:Rd α) {t:ByteArray} (h:qA t = true):rdErr p t = 34:=by
 rw [qA,Bool.and_eq_true,decide_eq_true_iff] at h
 unfold rdErr
 rw [if_pos ⟨h.1,by rw [pfx_obl h.1]; exact h.2⟩]
theorem rd_b {α:Type} (p:Rd α) {t:ByteArray} (h:qA t = false) (h2:qB t = true):rdErr p t = 35:=by
 have hA:¬ (t.size < 4∧pfxB obl t = true):=by
  rintro ⟨a,b⟩
  rw [pfx_obl a] at b
  rw [qA,b] at h
  simp [a] at h
 have hB:pfxB t obl = false:=by
  unfold pfxB
  by_cases h4:t.size < 4
  ·rw [if_neg (show ¬ obl.size≤t.size by show ¬ 4≤t.size; omega)]
  rw [if_pos (show obl.size≤t.size by show 4≤t.size; omega)]
  rw [qB] at h2
  simp only [h4,decide_false,Bool.false_or,Bool.not_eq_true'] at h2
  exact h2
 unfold rdErr
 rw [if_neg hA,if_pos hB]
theorem rd_c {t:ByteArray} (h2:qB t = false):4≤t.size∧pfxB t obl = true:=by
 rw [qB,Bool.or_eq_false_iff,decide_eq_false_iff_not] at h2
 have h4:4≤t.size:=by omega
 refine ⟨h4,?_⟩
 unfold pfxB
 rw [if_pos (show obl.size≤t.size from h4)]
 have:=h2.2
 simp only [Bool.not_eq_false'] at this
 exact this
theorem doc_back {n:Nat} {t:ByteArray} {x:Dc n} (h4:4≤t.size) (hp:pfxB t obl = true) (h:dcR n ((al t).drop 4) = .ok x (t.size - 4)):mkB (bE++dcE n x) = t∧(dcE n x).length = t.size - 4:=by
 obtain ⟨_,h2,_⟩:=(fit_dcD n).read _ x _ (fun b hb => bytesN_lt t b (List.mem_of_mem_drop hb)) h
 have hl:((al t).drop 4).length = t.size - 4:=by rw [List.length_drop,aE]
 rw [List.take_of_length_le (by omega)] at h2
 have hm:(al t).take 4 = bE:=by
  unfold pfxB at hp
  rw [if_pos (show obl.size≤t.size from h4)] at hp
  have h9:t.extract 0 4 = obl:=by
   by_cases h:t.extract 0 4 = obl
   ·exact h
   exact absurd (hp.symm.trans (beqS_ne h)) (by decide)
  have:=congrArg al h9
  rw [bytesN_extract,List.drop_zero] at this
  exact this
 refine ⟨?_,by rw [<- h2,hl]⟩
 apply bytesN_inj
 rw [(doc_bytes x).1,<- h2,<- hm,List.take_append_drop]
def DesS (n:Nat) (w:World) (M L:Nat) (t:ByteArray) (vs2:List Value) (x2:Dc n) (E2 want:Int) (vs3:List Value) (wr:World):Prop :=
 Below w.heap.size w wr∧wr.heap[M]? = some (.cells vs2.toArray 49 (0,0))∧dcP n wr (fun b => b < wr.heap.size) vs2 x2∧E2 = want ∧
  (want = 0→wr.heap[L]? = some (.cells vs3.toArray 49 (0,0))∧vs3.length = 11∧dcP n wr (fun b => b < wr.heap.size) vs3 x2∧mkB (bE++dcE n x2) = t∧chkD x2 = 0∧(dcE n x2).length≤400)
theorem decodes_any (n:Nat) (s1:ByteArray) (w:World) (hn:400 < n):Calls Tryz.prog 12 #[.string s1] w (TrueC w):=by
 obtain ⟨q1,hq1⟩:=gX ((min (s1.size:Int) 400).toNat)
 obtain ⟨t,h1⟩:=gX (s1.extract 0 q1)
 have z1:t.size≤400:=by rw [h1,ByteArray.size_extract]; omega
 have g1:(if (400:Int) < (s1.size:Int) then (400:Int) else (s1.size:Int)) = (q1:Int):=by split <;> omega
 have g3:(q1:Int)≤(s1.size:Int):=by omega
 have x1:=h1.symm
 have HZ:=qH z1
 clear hq1 h1 z1
 go_enter Tryz.func12,Tryz.ntmps12
 go_upto_region 2 with fail
 clear g1 g3 x1
 refine ac (by rfl) ?_
 simp only [List.map]
 refine sq1 (.string t) ?_
 refine af 38 #[.string t] (by go_simp) ?_
 refine Calls.mono (Dec38 n t w (by have:=HZ.out; omega) (by have:=HZ.out; omega)) ?_
 rintro e w1 ⟨hb,vs2,x2,E2,rfl,hR2,ho2,hk0,hk1,hk2⟩
 have HK0:=qH hk0
 have HK1:=qH hk1
 have HK2:=qH hk2
 have hl2:=dc_len hR2
 have hR3:=rep_all hR2
 have HB:=qH hb
 clear hk0 hk1 hk2 hb hR2
 refine ⟨_,rfl,trivial,?_⟩
 simp only [Act.put,PutA,PutZ,PutS]
 refine sq1 (.tuple #[.agg (List.toArray vs2),.int .i64 E2]) ?_
 refine sq1 (.agg (List.toArray vs2)) ?_
 refine sq1i E2 ?_
 obtain ⟨M,hM⟩:=gX (w1.heap.size)
 have HM:=qH hM
 clear hM
 refine au (.pointer (some ⟨w1.heap.size,0,none⟩)) (w1.alloc (.cells #[.slice none 0 0,.slice none 0 0,.int .i64 0,.int .i64 0,.slice none 0 0,.slice none 0 0,.slice none 0 0,.slice none 0 0,.slice none 0 0,.slice none 0 0,.slice none 0 0] 49)) (by go_simp) trivial ?_
 simp only [Act.put,PutA,PutZ,PutS]
 refine as_ 49 _ _ rfl rfl w1.heap.size 49 #[.slice none 0 0,.slice none 0 0,.int .i64 0,.int .i64 0,.slice none 0 0,.slice none 0 0,.slice none 0 0,.slice none 0 0,.slice none 0 0,.slice none 0 0,.slice none 0 0] vs2 rfl rfl (heap_alloc_new w1 _) (by rw [hl2]; exact bz) ho2 (by rw [hl2]; rfl) ?_
 intro wq hm hg
 have hb:=below_new (Nat.le_refl _) _ hg
 have HR2:=qH (Rp.below (stb_dc n) hR3 (fun b hb => hb) hb)
 replace HB:=qH (HB.out.trans (hb.mono HB.out.size))
 rw [<- HM.out] at hm HR2 ⊢
 clear hg hR3 hb HM
 refine ⟨trivial,?_⟩
 refine sq1i E2 ?_
 refine ad ?_
 have HM2:=qH hm
 have HMW:Hid (M < wq.heap.size):=qH (ae hm)
 clear hm ho2
 obtain ⟨L,hL⟩:=gX (wq.heap.size)
 obtain ⟨X,hX⟩:=gX (wq.alloc (.cells #[.slice none 0 0,.slice none 0 0,.int .i64 0,.int .i64 0,.slice none 0 0,.slice none 0 0,.slice none 0 0,.slice none 0 0,.slice none 0 0,.slice none 0 0,.slice none 0 0] 49))
 have j1:X.heap[L]? = some (.cells #[.slice none 0 0,.slice none 0 0,.int .i64 0,.int .i64 0,.slice none 0 0,.slice none 0 0,.slice none 0 0,.slice none 0 0,.slice none 0 0,.slice none 0 0,.slice none 0 0] 49 (0,0)):=by rw [hX]; exact ah _ _ hL
 have j2:Below L wq X:=by rw [hX,hL]; exact (Below.refl _ _).alloc (Nat.le_refl _) _
 have j3:X.heap.size = L + 1:=by rw [hX,hL]; simp
 have HXS:=qH j3
 have HX:=qH hX
 have HL:=qH hL
 have J:=qH j1
 have HW:=qH j2
 clear hL hX j1 j2 j3
 go_upto_block 0 with fail
 rw [<- HX.out,<- HL.out]
 clear HX
 have MK:Hid (∀ (wr:World),Below L wq wr→wr.heap[M]? = some (.cells vs2.toArray 49 (0,0))∧Below w.heap.size w wr∧dcP n wr (fun b => b < wr.heap.size) vs2 x2):=qH (fun wr hb => by
  have hml:M < L:=by rw [HL.out]; exact HMW.out
  have hlz:=hb.size
  have hwq:=HL.out
  exact ⟨(hb.block M hml).trans HM2.out,HB.out.trans (hb.mono (by rw [HL.out]; exact HB.out.size)),stb_dc n _ _ _ _ _ _ (fun b h => by omega) (fun b h _ => hb.block b (by omega)) HR2.out⟩)
 clear HB HR2 HM2 HMW
 go_cut [5,7] from 20 to 50 (fun wv _ wr => ∃ (want:Int) (vs3:List Value),wv = .int .i64 want∧Hid (DesS n w M L t vs2 x2 E2 want vs3 wr))
 case first =>
  obtain ⟨qa,hqa⟩:=gX (qA t)
  obtain ⟨qb,hqb⟩:=gX (qB t)
  have HQA:=qH hqa
  have HQB:=qH hqb
  clear hqa hqb
  go_upto_region 10 with fail
  go_cut [31] from 32 to 41 (fun bv wr => bv = .bool qa∧X = wr)
  case first =>
   by_cases p1:t.size < 4
   ·have f1:decide ((t.size:Int) < 4) = true:=by simp; omega
    have f2:decide (t.size < 4) = true:=by simpa using p1
    have f3:(t.size:Int)≤4:=by omega
    have dF:=qH (show qa = (t.toList == (obl.extract 0 t.size).toList) by rw [HQA.out,qA,f2]; rfl)
    clear p1
    go_wp2_with fail
    go_meet
    exact ⟨by rw [dF.out],rfl⟩
   have f1:decide ((t.size:Int) < 4) = false:=by simp; omega
   have f2:decide (t.size < 4) = false:=by simpa using p1
   have dF:=qH (show qa = false by rw [HQA.out,qA,f2]; rfl)
   clear p1
   go_wp2_with fail
   go_meet
   exact ⟨by rw [dF.out],rfl⟩
  obtain ⟨rfl,rfl⟩:=hcut
  cases qa
  case true =>
   have HE:=qH (rd_a (dcR n) HQA.out.symm)
   have HE2:=qH (show E2 = 34 from (HK0.out (by rw [HE.out]; decide)).trans HE.out)
   have HD:=qH (MK.out X HW.out)
   clear HQA HQB MK
   go_wp2_with fail
   go_meet
   exact ⟨34,[],rfl,qH ⟨HD.out.2.1,HD.out.1,HD.out.2.2,HE2.out,fun q => absurd q (by decide)⟩⟩
  go_upto_region 12 with fail
  go_cut [42] from 43 to 50 (fun bv wr => bv = .bool qb∧X = wr)
  case first =>
   by_cases p1:t.size < 4
   ·have f1:decide ((t.size:Int) < 4) = true:=by simp; omega
    have f2:decide (t.size < 4) = true:=by simpa using p1
    have dF:=qH (show qb = true by rw [HQB.out,qB,f2]; rfl)
    clear p1
    go_wp2_with fail
    go_meet
    exact ⟨by rw [dF.out],rfl⟩
   have f1:decide ((t.size:Int) < 4) = false:=by simp; omega
   have f2:decide (t.size < 4) = false:=by simpa using p1
   have f3:(4:Int)≤(t.size:Int):=by omega
   have dF:=qH (show qb = !((t.extract 0 4).toList == [79,66,76,49]) by rw [HQB.out,qB,f2,Bool.false_or,obl_list])
   clear p1
   go_wp2_with fail
   go_meet
   exact ⟨by rw [dF.out],rfl⟩
  obtain ⟨rfl,rfl⟩:=hcut
  cases qb
  case true =>
   have HE:=qH (rd_b (dcR n) HQA.out.symm HQB.out.symm)
   have HE2:=qH (show E2 = 35 from (HK0.out (by rw [HE.out]; decide)).trans HE.out)
   have HD:=qH (MK.out X HW.out)
   clear HQA HQB MK
   go_wp2_with fail
   go_meet
   exact ⟨35,[],rfl,qH ⟨HD.out.2.1,HD.out.1,HD.out.2.2,HE2.out,fun q => absurd q (by decide)⟩⟩
  have HP:=qH (rd_c HQB.out.symm)
  clear HQA HQB
  obtain ⟨r,hr⟩:=gX (X.heap.size)
  obtain ⟨Y,hY⟩:=gX (X.alloc (.cells #[.string t,.int .i64 4,.int .i64 0] 30))
  have hRd:Rdr 30 r t 4 0 Y:=by rw [hY]; exact ah _ _ hr
  have hYs:Y.heap.size = r + 1:=by rw [hY,hr]; simp
  have hrL:r = L + 1:=by rw [hr]; exact HXS.out
  have hBY:Below X.heap.size X Y:=by rw [hY]; exact (Below.refl _ _).alloc (Nat.le_refl _) _
  replace HW:=qH (HW.out.trans (hBY.mono (by omega)))
  replace J:=qH ((hBY.block L (by omega)).trans J.out)
  have C:=qH (lr41 n r 4 t 0 Y hRd HP.out.1 (by have:=HZ.out; omega) (fun _ => by have:=HZ.out; omega))
  have HY:=qH hY
  have HRq:=qH hr
  have HRL:=qH hrL
  have HYS:=qH hYs
  clear hr hY hRd hYs hrL hBY
  go_upto_region 6 with fail
  rw [<- HY.out,<- HRq.out]
  clear HY HRq
  refine ac (by rfl) ?_
  simp only [List.map]
  refine sq1p r 0 ?_
  refine af 41 #[.pointer (some ⟨r,0,none⟩)] (by go_simp) ?_
  refine C.out.mono ?_
  rintro e w8 ⟨vs3,x3,k3,e3,rfl,hl3,ho3,hR3,hr3,hg3,hs3⟩
  obtain ⟨hc1,hc2⟩:=end_code hs3 HP.out.2
  have hrl:=HRL.out
  have hys:=HYS.out
  have hlz:=HW.out.size
  have j8:=(hg3.block L (by omega) (fun q => by injection q with q; omega)).trans J.out
  have hg3s:=hg3.size
  replace HW:=qH (HW.out.trans (bO (B:=L) (by omega) hg3 (by omega)))
  clear C J hg3 hs3
  refine ⟨_,rfl,trivial,?_⟩
  simp only [Act.put,PutA,PutZ,PutS]
  refine as_ 49 _ _ rfl rfl L 49 #[.slice none 0 0,.slice none 0 0,.int .i64 0,.int .i64 0,.slice none 0 0,.slice none 0 0,.slice none 0 0,.slice none 0 0,.slice none 0 0,.slice none 0 0,.slice none 0 0] vs3 rfl rfl j8 (by rw [hl3]; exact bz) ho3 (by rw [hl3]; rfl) ?_
  intro w9 hm hg
  have hr9:=(hg.block r (ae hr3) (fun q => by injection q with q; omega)).trans hr3
  have hgs:=hg.size
  have hR9:dcP n w9 (fun b => r < b∧b < w9.heap.size) vs3 x3:=stb_dc n _ _ _ _ _ _ (fun b hb => ⟨by have:=hb.1; omega,by have:=hb.2; omega⟩) (fun b hb hl => hg.block b hl (fun q => by injection q with q; have:=hb.1; omega)) hR3
  replace HW:=qH (HW.out.trans (bO (B:=L) (by omega) hg (by omega)))
  clear hR3 hr3 hg j8 ho3
  refine ⟨trivial,ad ?_⟩
  obtain ⟨E,hE⟩:=gX (rdErr (dcR n) t)
  have C:=qH (end28_rdr r k3 t e3 w9 hr9)
  rw [hc1,<- hE] at C
  have HC2:=qH hc2
  have HE:=qH hE
  have J:=qH hm
  have HR9:=qH hR9
  clear hc1 hc2 hE hm hR9 hr9 hgs hg3s hlz hys hrl HYS
  go_upto_region 7 with fail
  refine ac (by rfl) ?_
  simp only [List.map]
  refine sq1p r 0 ?_
  refine af 28 #[.pointer (some ⟨r,0,none⟩)] (by go_simp) ?_
  refine C.out.mono ?_
  rintro e w10 ⟨rfl,_,hg⟩
  have hrl:=HRL.out
  have hgs:=hg.size
  have hlj:=ae J.out
  replace J:=qH ((hg.block L (by omega) (fun q => by injection q with q; omega)).trans J.out)
  have hR10:dcP n w10 (fun b => b < w10.heap.size) vs3 x3:=stb_dc n _ _ _ _ _ _ (fun b hb => by have:=hb.2; omega) (fun b hb hl => hg.block b hl (fun q => by injection q with q; have:=hb.1; omega)) HR9.out
  have HR10:=qH hR10
  replace HW:=qH (HW.out.trans (bO (B:=L) (by omega) hg (by omega)))
  clear C HR9 hR10 hg hgs hlj hrl
  refine ⟨_,rfl,trivial,?_⟩
  simp only [Act.put,PutA,PutZ,PutS]
  refine sq1i E ?_
  refine ad ?_
  by_cases h0:E = 0
  case neg =>
   have q0:(E == 0) = false:=by rw [beq_eq_false_iff_ne]; exact h0
   have HNE:=qH h0
   clear h0
   have HE2:=qH (show E2 = E from (HK0.out (by rw [<- HE.out]; exact HNE.out)).trans HE.out.symm)
   have HD:=qH (MK.out w10 HW.out)
   clear MK J
   go_wp2_with fail
   go_meet
   exact ⟨E,[],rfl,qH ⟨HD.out.2.1,HD.out.1,HD.out.2.2,HE2.out,fun q => absurd q HNE.out⟩⟩
  subst h0
  obtain ⟨Q,hQ⟩:=gX (chkD x3)
  have hbk:=doc_back HP.out.1 HP.out.2 (HC2.out HE.out.symm)
  have hz4:(dcE n x3).length≤400:=by rw [hbk.2]; have:=HZ.out; omega
  have C:=qH (check_doc n (fun b => b < w10.heap.size) w10 vs3 x3 HR10.out (fun b hb => hb) (by omega))
  rw [<- hQ] at C
  have HQ:=qH hQ
  have HBK:=qH hbk
  have HZ4:=qH hz4
  clear hQ hbk hz4
  go_upto_region 9 with fail
  refine ac (by rfl) ?_
  simp only [List.map]
  refine ar 49 _ rfl L 49 vs3.toArray _ rfl J.out Tryz.underlying49 rfl (by rw [List.size_toArray,hl3]; exact bz) trivial ?_
  simp only [Act.put,PutA,PutZ,PutS]
  refine af 20 #[.agg (List.toArray vs3)] (by go_simp) ?_
  refine C.out.mono ?_
  rintro e w11 ⟨rfl,hb⟩
  have HR11:=qH (stb_dc n _ _ _ (fun b => b < w11.heap.size) _ _ (fun b h => Nat.lt_of_lt_of_le h hb.size) (fun b _ _ => rfl) (Rp.below (stb_dc n) HR10.out (fun b hb => hb) hb))
  replace HW:=qH (HW.out.trans (hb.mono (Nat.le_of_lt (ae J.out))))
  replace J:=qH (ai J.out hb)
  have HD:=qH (MK.out w11 HW.out)
  have HS:Hid (DesS n w M L t vs2 x2 E2 Q vs3 w11):=qH (by
   obtain ⟨y,hy,hE2,hxy⟩:=HK1.out HE.out.symm
   obtain rfl:x3 = y:=ok_same hy (HC2.out HE.out.symm)
   refine ⟨HD.out.2.1,HD.out.1,HD.out.2.2,hE2.trans HQ.out.symm,fun q => ?_⟩
   obtain rfl:x2 = x3:=hxy (by rw [hE2,<- HQ.out]; exact q)
   exact ⟨J.out,hl3,HR11.out,HBK.out.1,by rw [<- HQ.out]; exact q,HZ4.out⟩)
  clear C hb J MK HD HR11 HR10 HQ HBK HZ4
  refine ⟨_,rfl,trivial,?_⟩
  simp only [Act.put,PutA,PutZ,PutS]
  refine sq1i Q ?_
  refine ad ?_
  go_wp2_with fail
  go_meet
  exact ⟨Q,vs3,rfl,HS⟩
 obtain ⟨want,vs3,rfl,HD⟩:=hcut
 have K:=qH HD.out.2.1
 have HB:=qH HD.out.1
 have HR2:=qH HD.out.2.2.1
 obtain rfl:E2 = want:=HD.out.2.2.2.1
 by_cases he:E2 = 0
 case neg =>
  have g1:(E2 == 0) = false:=by rw [beq_eq_false_iff_ne]; exact he
  have g2:(E2 != 0) = true:=by simp [bne,g1]
  have g3:(E2 == E2) = true:=by simp
  obtain rfl:x2 = dcz n:=HK2.out he
  clear he HD HK0 HK1 HK2
  go_upto_region 15 with fail
  refine aG ?_
  simp only [List.map]
  refine ax rfl ?_
  refine af 15 #[] (by go_simp) ?_
  refine (known15b _).mono ?_
  rintro e w2 ⟨rfl,hb⟩
  replace K:=qH (ai K.out hb)
  replace HB:=qH (HB.out.trans (hb.mono HB.out.size))
  have C:=qH (eq22 n (fun b => b < wc.heap.size) w2 vs2 [.slice none 0 0,.slice none 0 0,.int .i64 0,.int .i64 0,.slice none 0 0,.slice none 0 0,.slice none 0 0,.slice none 0 0,.slice none 0 0,.slice none 0 0,.slice none 0 0] (dcz n) (dcz n) (Rp.below (stb_dc n) HR2.out (fun b hb => hb) hb) (dcz_rep n w2 _) hl2 rfl (fun b h => Nat.lt_of_lt_of_le h hb.size))
  clear hb HR2
  refine ⟨_,rfl,trivial,?_⟩
  refine ad ?_
  simp only [Act.put,PutA,PutZ,PutS]
  refine gd2b true ?_
  refine gd2i E2 ?_
  refine gd2i E2 ?_
  refine gd2b true ?_
  refine gd2b true ?_
  refine gd2b true ?_
  refine ax rfl ?_
  refine ar 49 _ rfl M 49 vs2.toArray _ rfl K.out Tryz.underlying49 rfl (by rw [List.size_toArray,hl2]; exact bz) trivial ?_
  refine ad ?_
  simp only [Act.put,PutA,PutZ,PutS]
  refine gd2 (.agg #[.slice none 0 0,.slice none 0 0,.int .i64 0,.int .i64 0,.slice none 0 0,.slice none 0 0,.slice none 0 0,.slice none 0 0,.slice none 0 0,.slice none 0 0,.slice none 0 0]) ?_
  refine ax rfl ?_
  refine af 22 #[.agg (List.toArray vs2),.agg #[.slice none 0 0,.slice none 0 0,.int .i64 0,.int .i64 0,.slice none 0 0,.slice none 0 0,.slice none 0 0,.slice none 0 0,.slice none 0 0,.slice none 0 0,.slice none 0 0]] (by go_simp) ?_
  refine C.out.mono ?_
  rintro e w9 ⟨r,rfl,hr,hb⟩
  obtain rfl:r = true:=hr.2 rfl
  replace HB:=qH (HB.out.trans (hb.mono HB.out.size))
  clear hb C hr
  refine ⟨_,rfl,trivial,?_⟩
  refine ad ?_
  simp only [Act.put,PutA,PutZ,PutS]
  refine gd2b true ?_
  refine ax rfl ?_
  refine a7 (.bool true) (by go_simp) trivial ?_
  refine ad ?_
  simp only [Act.put,PutA,PutZ,PutS]
  refine NoPanic.normal (NoPanic.normal ?_)
  clear K
  go_wp2_with fail
  go_ret
  exact ⟨rfl,HB.out⟩
 subst he
 obtain ⟨hJ,hl3,hR3,hbk,hck,hzl⟩:=HD.out.2.2.2.2 rfl
 have J:=qH hJ
 have HR3:=qH hR3
 have C:=qH (encode21 n (fun b => b < wc.heap.size) wc vs2 x2 HR2.out (fun b hb => hb) (by omega))
 unfold EncR at C
 rw [if_pos hck,hck,hbk] at C
 clear hJ hR3 hbk hck hzl HD HK0 HK1 HK2
 go_upto_region 16 with fail
 refine ac (by rfl) ?_
 simp only [List.map]
 refine ar 49 _ rfl M 49 vs2.toArray _ rfl K.out Tryz.underlying49 rfl (by rw [List.size_toArray,hl2]; exact bz) trivial ?_
 simp only [Act.put,PutA,PutZ,PutS]
 refine af 21 #[.agg (List.toArray vs2)] (by go_simp) ?_
 refine C.out.mono ?_
 rintro e w2 ⟨rfl,hb⟩
 have HBR:=qH hb
 replace K:=qH (ai K.out hb)
 replace J:=qH (ai J.out hb)
 replace HB:=qH (HB.out.trans (hb.mono HB.out.size))
 clear hb C
 refine ⟨_,rfl,trivial,?_⟩
 simp only [Act.put,PutA,PutZ,PutS]
 refine sq1 (.tuple #[.string t,.int .i64 0]) ?_
 refine sq1 (.string t) ?_
 refine sq1i 0 ?_
 refine sq1 (.string t) ?_
 refine sq1i 0 ?_
 refine ad ?_
 go_upto_region 17 with fail
 refine aG ?_
 simp only [List.map]
 refine ax rfl ?_
 refine af 15 #[] (by go_simp) ?_
 refine (known15b _).mono ?_
 rintro e w3 ⟨rfl,hb⟩
 replace K:=qH (ai K.out hb)
 replace J:=qH (ai J.out hb)
 replace HB:=qH (HB.out.trans (hb.mono HB.out.size))
 replace HBR:=qH (HBR.out.trans (hb.mono HBR.out.size))
 have C:=qH (eq22 n (fun b => b < wc.heap.size) w3 vs2 vs3 x2 x2 (Rp.below (stb_dc n) HR2.out (fun b hb => hb) HBR.out) (Rp.below (stb_dc n) HR3.out (fun b hb => hb) HBR.out) hl2 hl3 (fun b h => Nat.lt_of_lt_of_le h HBR.out.size))
 clear hb HR2 HR3
 refine ⟨_,rfl,trivial,?_⟩
 refine ad ?_
 simp only [Act.put,PutA,PutZ,PutS]
 refine gd2b true ?_
 refine gd2i 0 ?_
 refine gd2b true ?_
 refine gd2b true ?_
 refine gd2b true ?_
 refine ax rfl ?_
 refine ar 49 _ rfl M 49 vs2.toArray _ rfl K.out Tryz.underlying49 rfl (by rw [List.size_toArray,hl2]; exact bz) trivial ?_
 refine ad ?_
 simp only [Act.put,PutA,PutZ,PutS]
 refine ax rfl ?_
 refine ar 49 _ rfl L 49 vs3.toArray _ rfl J.out Tryz.underlying49 rfl (by rw [List.size_toArray,hl3]; exact bz) trivial ?_
 refine ad ?_
 simp only [Act.put,PutA,PutZ,PutS]
 refine ax rfl ?_
 refine af 22 #[.agg (List.toArray vs2),.agg (List.toArray vs3)] (by go_simp) ?_
 refine C.out.mono ?_
 rintro e w9 ⟨r,rfl,hr,hb⟩
 obtain rfl:r = true:=hr.2 rfl
 replace HB:=qH (HB.out.trans (hb.mono HB.out.size))
 clear hb C hr
 refine ⟨_,rfl,trivial,?_⟩
 refine ad ?_
 simp only [Act.put,PutA,PutZ,PutS]
 refine gd2b true ?_
 refine gd2b true ?_
 refine gd2i 0 ?_
 refine gd2b true ?_
 refine gd2b true ?_
 refine gd2b true ?_
 refine gd2 (.string t) ?_
 refine gd2 (.string t) ?_
 refine gd2b true ?_
 refine gd2b true ?_
 refine ax rfl ?_
 refine a7 (.bool true) (by go_simp) trivial ?_
 refine ad ?_
 simp only [Act.put,PutA,PutZ,PutS]
 refine NoPanic.normal (NoPanic.normal ?_)
 clear K J
 go_wp2_with fail
 go_ret
 exact ⟨rfl,HB.out⟩
end Go.Proofs.YtmhhcfceikcfbaaGreat
