/- Walk: the law on documents. -/
import Derived.Test.YtmhhcfceikcfbaaGreatDcBk
import Derived.Test.YtmhhcfceikcfbaaGreatDcQ3
namespace Go.Proofs.YtmhhcfceikcfbaaGreat
open Go.RowKit
set_option maxRecDepth 100000
set_option maxHeartbeats 4000000
theorem rep_all {n:Nat} {w:World} {a0:Nat} {vs:List Value} {x:Dc n} (h:dcP n w (Since a0 w) vs x):dcP n w (fun b => b < w.heap.size) vs x:=bG n _ _ _ _ _ _ (fun _ h => h.2) (fun _ _ _ => rfl) h
theorem dc_len {n:Nat} {w:World} {G:Nat→Prop} {vs:List Value} {x:Dc n} (h:dcP n w G vs x):vs.length = 11:=by
 obtain ⟨_,_,_,_,_,_,_,_,_,_,_,rfl,_⟩:=h
 rfl
theorem docs_any (n:Nat) (G:Nat→Prop) (w:World) (vs:List Value) (x:Dc n) (hx:dcP n w G vs x) (hG:∀ b,G b→b < w.heap.size) (hzx:(dcE n x).length≤10485760) (hn:10485764 < n):Calls Tryz.prog 11 #[.agg vs.toArray] w (TrueC w):=by
 have hdx:=dom_dc n _ _ _ _ hx
 obtain ⟨f0,h0,h1,h2,h3,h4,r0,s0,s1,s2,s3,rfl,A0,A1,A2,A3⟩:=hx
 have hRx:dcP n w G [f0,h0,h1,h2,h3,h4,r0,s0,s1,s2,s3] x:=⟨_,_,_,_,_,_,_,_,_,_,_,rfl,A0,A1,A2,A3⟩
 obtain ⟨fA,fc,rfl,_,_⟩:=A0.shape
 obtain ⟨rA,rc,rfl,_,hrm⟩:=A2.shape
 obtain ⟨fn,hfn⟩:=gX (x.1.length)
 obtain ⟨rn,hrn⟩:=gX (x.2.2.1.length)
 rw [<- hfn] at A0 hRx
 rw [<- hrn] at A2 hRx
 rw [<- hfn,<- hrn]
 clear hfn hrn hrm
 obtain ⟨N,hN⟩:=gX (w.heap.size)
 obtain ⟨W,hW⟩:=gX (w.alloc (.cells #[.slice fA fn fc,h0,h1,h2,h3,h4,.slice rA rn rc,s0,s1,s2,s3] 49))
 have hb1:W.heap[N]? = some (.cells #[.slice fA fn fc,h0,h1,h2,h3,h4,.slice rA rn rc,s0,s1,s2,s3] 49 (0,0)):=by rw [hW,hN]; exact heap_alloc_new _ _
 have hB:Below w.heap.size w W:=by rw [hW]; exact ag _ _
 have HDX:=qH hdx
 have HZX:=qH hzx
 have HRX:=qH hRx
 have HA0:=qH A0
 have HA1:=qH A1
 have HA3:=qH A3
 have HG:=qH hG
 have HW:=qH hW
 have HN:=qH hN
 have HB:=qH hB
 have K:=qH hb1
 clear hdx hzx hRx A0 A1 A2 A3 hG hW hN hB hb1
 go_enter Tryz.func11,Tryz.ntmps11
 go_upto_region 1 with fail
 rw [<- HW.out,<- HN.out]
 clear HW
 go_wp2_with fail
 refine (known15b _).mono ?_
 rintro e w1 ⟨rfl,hb⟩
 replace K:=qH (ai K.out hb)
 replace HB:=qH (HB.out.trans (hb.mono HB.out.size))
 clear hb
 obtain ⟨M,hM⟩:=gX (w1.heap.size)
 obtain ⟨X,hX⟩:=gX ((w1.alloc (.cells #[.int .i64 0,.int .i64 0,.int .i64 0,.string ⟨#[]⟩,h0,h1,h2,h3,h4,.slice none 0 0,.slice none 0 0] 53)).alloc (.cells #[.slice fA fn fc,.slice (some ⟨M,0,none⟩) 1 1] 33))
 have b2:X.heap[M]? = some (.cells #[.int .i64 0,.int .i64 0,.int .i64 0,.string ⟨#[]⟩,h0,h1,h2,h3,h4,.slice none 0 0,.slice none 0 0] 53 (0,0)):=by
  rw [hX,hM]
  exact (Below.heap_alloc _ _ _ (by simp)).trans (heap_alloc_new _ _)
 have b3:X.heap[M + 1]? = some (.cells #[.slice fA fn fc,.slice (some ⟨M,0,none⟩) 1 1] 33 (0,0)):=by
  rw [hX,hM]
  exact ah _ _ (by simp)
 have hBX:Below w1.heap.size w1 X:=by
  rw [hX]
  exact ((Below.refl _ _).alloc (Nat.le_refl _) _).alloc (by simp) _
 have hXs:X.heap.size = M + 2:=by rw [hX,hM]; simp
 have hbX:=HB.out.trans (hBX.mono HB.out.size)
 have hH2:hdP X (fun b => G b∨b = M) [h0,h1,h2,h3,h4] x.2.1:=aK _ _ _ _ _ _ (fun b h => .inl h) (fun b hg hl => hbX.block b hl) HA1.out
 have k3:Slv (itP (n + 1)) 11 X (fun b => G b∨b = M) (.slice (some ⟨M,0,none⟩) 1 1) _:=slv_one b2 rfl (.inr rfl) (x:=((0:Int),(0:Int),(0:Int),(⟨#[]⟩:ByteArray),x.2.1,([]:List (It n)),([]:List (Rw n))))
  ⟨_,_,_,_,_,_,_,rfl,⟨i64_0,i64_0,i64_0,Nat.zero_le _⟩,hH2,Slv.nil _ _,Slv.nil _ _⟩
 have hGX:∀ b,(G b∨b = M)→b < X.heap.size:=by
  rintro b (h | h)
  ·have:=HG.out b h; have:=hbX.size; omega
  omega
 have k0:Slv (itP n) 11 X (fun b => G b∨b = M) (.slice fA fn fc) x.1:=HA0.out.mono (aZ n) HG.out (fun b h => .inl h) hbX
 have C18:=qH (small18 X X [.slice fA fn fc,.slice (some ⟨M,0,none⟩) 1 1] (M + 1) 0 2 (fun j u hu => by rw [Nat.zero_add,aa b3 j]; simpa using hu) (by simp) (by omega) (Below.refl _ _) (by
  intro v hv Y hY
  simp only [List.mem_cons,List.not_mem_nil,or_false] at hv
  rcases hv with rfl | rfl
  ·exact weight_any n _ Y _ _ (k0.below (aZ n) hGX hY) (fun b h => Nat.lt_of_lt_of_le (hGX b h) hY.size)
  exact weight_any (n + 1) _ Y _ _ (k3.below (aZ (n + 1)) hGX hY) (fun b h => Nat.lt_of_lt_of_le (hGX b h) hY.size)))
 have HX:=qH hX
 have HM:=qH hM
 have HBX:=qH hBX
 clear b2 b3 hXs hH2 k3 k0 hGX hX hM hBX hbX
 have p0:=aa K.out 0
 have p1:=aa K.out 1
 have p2:=aa K.out 2
 have p3:=aa K.out 3
 have p4:=aa K.out 4
 have p5:=aa K.out 5
 go_wp2_with fail
 rw [<- HM.out,<- HX.out]
 refine C18.out.mono ?_
 rintro e w2 ⟨b2,rfl,hb2⟩
 have hb:=HBX.out.trans (hb2.mono HBX.out.size)
 replace K:=qH (ai K.out hb)
 replace HB:=qH (HB.out.trans (hb.mono HB.out.size))
 clear hb hb2 C18 HX HM HBX p0 p1 p2 p3 p4 p5
 cases b2
 ·go_wp2_with fail
  refine (known15b _).mono ?_
  rintro e wk ⟨rfl,hb⟩
  replace HB:=qH (HB.out.trans (hb.mono HB.out.size))
  clear hb K
  go_wp2_with fail
  go_ret
  exact ⟨rfl,HB.out⟩
 have p7:=aa K.out 7
 have p8:=aa K.out 8
 have p9:=aa K.out 9
 have p10:=aa K.out 10
 have C:=qH (few19 G w2 [s0,s1,s2,s3] _ (Rp.below stb_stg HA3.out HG.out HB.out) (fun b h => Nat.lt_of_lt_of_le (HG.out b h) HB.out.size))
 go_wp2_with fail
 refine C.out.mono ?_
 rintro e w3 ⟨b2,rfl,hb⟩
 replace K:=qH (ai K.out hb)
 replace HB:=qH (HB.out.trans (hb.mono HB.out.size))
 clear hb C p7 p8 p9 p10
 cases b2
 ·go_wp2_with fail
  refine (known15b _).mono ?_
  rintro e wk ⟨rfl,hb⟩
  replace HB:=qH (HB.out.trans (hb.mono HB.out.size))
  clear hb K
  go_wp2_with fail
  go_ret
  exact ⟨rfl,HB.out⟩
 have p6:=aa K.out 6
 by_cases hl:40 < rn
 ·have g1:decide ((40:Int) < (rn:Int)) = true:=by simp; omega
  have g2:decide (40 < rn) = true:=by simpa using hl
  clear hl
  go_wp2_with fail
  refine (known15b _).mono ?_
  rintro e wk ⟨rfl,hb⟩
  replace HB:=qH (HB.out.trans (hb.mono HB.out.size))
  clear hb K
  go_wp2_with fail
  go_ret
  exact ⟨rfl,HB.out⟩
 have g1:decide ((40:Int) < (rn:Int)) = false:=by simp; omega
 have g2:decide (40 < rn) = false:=by simpa using hl
 clear hl
 obtain ⟨E,hE⟩:=gX (chkD x)
 obtain ⟨S,hS⟩:=gX (mkB (aT++dcE n x))
 have hSZ:S.size≤10485764:=by have:=HZX.out; rw [hS,(doc_bytes x).2]; omega
 have hBK:=doc_whole HDX.out
 rw [<- hS] at hBK
 have HE:=qH hE
 have HS:=qH hS
 have HSZ:=qH hSZ
 have HBK:=qH hBK
 clear hE hS hSZ hBK
 by_cases he:E = 0
 case neg =>
  have C:=qH (encode21 n G w3 [.slice fA fn fc,h0,h1,h2,h3,h4,.slice rA rn rc,s0,s1,s2,s3] x (Rp.below (bG n) HRX.out HG.out HB.out) (fun b h => Nat.lt_of_lt_of_le (HG.out b h) HB.out.size) (by have:=HZX.out; omega))
  unfold EncR at C
  rw [<- HE.out,if_neg he] at C
  go_upto_region 3 with fail
  refine af (by rfl) ?_
  simp only [List.map]
  refine as_ 49 _ rfl N 49 #[.slice fA fn fc,h0,h1,h2,h3,h4,.slice rA rn rc,s0,s1,s2,s3] _ rfl K.out Tryz.underlying49 rfl bx trivial ?_
  simp only [Act.put,PutA,PutZ,PutS]
  refine ae 21 #[.agg #[.slice fA fn fc,h0,h1,h2,h3,h4,.slice rA rn rc,s0,s1,s2,s3]] (by go_simp) ?_
  refine C.out.mono ?_
  rintro e w5 ⟨rfl,hb⟩
  replace K:=qH (ai K.out hb)
  replace HB:=qH (HB.out.trans (hb.mono HB.out.size))
  clear hb C
  refine ⟨_,rfl,trivial,?_⟩
  simp only [Act.put,PutA,PutZ,PutS]
  refine sq1 (.tuple #[.string ⟨#[]⟩,.int .i64 E]) ?_
  refine sq1 (.string ⟨#[]⟩) ?_
  refine sq1i E ?_
  refine sq1 (.string ⟨#[]⟩) ?_
  refine sq1i E ?_
  refine ad ?_
  have C:=qH (check_doc n G w5 [.slice fA fn fc,h0,h1,h2,h3,h4,.slice rA rn rc,s0,s1,s2,s3] x (Rp.below (bG n) HRX.out HG.out HB.out) (fun b h => Nat.lt_of_lt_of_le (HG.out b h) HB.out.size) (by have:=HZX.out; omega))
  rw [<- HE.out] at C
  go_upto_region 4 with fail
  refine af (by rfl) ?_
  simp only [List.map]
  refine as_ 49 _ rfl N 49 #[.slice fA fn fc,h0,h1,h2,h3,h4,.slice rA rn rc,s0,s1,s2,s3] _ rfl K.out Tryz.underlying49 rfl bx trivial ?_
  simp only [Act.put,PutA,PutZ,PutS]
  refine ae 20 #[.agg #[.slice fA fn fc,h0,h1,h2,h3,h4,.slice rA rn rc,s0,s1,s2,s3]] (by go_simp) ?_
  refine C.out.mono ?_
  rintro e w6 ⟨rfl,hb⟩
  replace K:=qH (ai K.out hb)
  replace HB:=qH (HB.out.trans (hb.mono HB.out.size))
  clear hb C
  refine ⟨_,rfl,trivial,?_⟩
  simp only [Act.put,PutA,PutZ,PutS]
  refine sq1i E ?_
  refine ad ?_
  have g1:(E == 0) = false:=by rw [beq_eq_false_iff_ne]; exact he
  have g2:(E != 0) = true:=by simp [bne,g1]
  have g3:(E == E) = true:=by simp
  have HNE:=qH he
  clear he
  have C:=qH (str_doc n G w6 [.slice fA fn fc,h0,h1,h2,h3,h4,.slice rA rn rc,s0,s1,s2,s3] x (Rp.below (bG n) HRX.out HG.out HB.out) (fun b h => Nat.lt_of_lt_of_le (HG.out b h) HB.out.size) (by have:=HZX.out; have:aT.length = 4:=rfl; rw [List.length_append]; omega))
  unfold StrE at C
  rw [<- HS.out] at C
  go_upto_region 6 with fail
  refine af (by rfl) ?_
  simp only [List.map]
  refine as_ 49 _ rfl N 49 #[.slice fA fn fc,h0,h1,h2,h3,h4,.slice rA rn rc,s0,s1,s2,s3] _ rfl K.out Tryz.underlying49 rfl bx trivial ?_
  simp only [Act.put,PutA,PutZ,PutS]
  refine ae 37 #[.agg #[.slice fA fn fc,h0,h1,h2,h3,h4,.slice rA rn rc,s0,s1,s2,s3]] (by go_simp) ?_
  refine C.out.mono ?_
  rintro e w7 ⟨rfl,hb⟩
  replace K:=qH (ai K.out hb)
  replace HB:=qH (HB.out.trans (hb.mono HB.out.size))
  clear hb C
  refine ⟨_,rfl,trivial,?_⟩
  simp only [Act.put,PutA,PutZ,PutS]
  refine ae 38 #[.string S] (by go_simp) ?_
  refine Calls.mono (Dec38 n S w7 (by have:=HSZ.out; omega) (by have:=HSZ.out; omega)) ?_
  rintro e w8 ⟨hb,vs2,x2,E2,rfl,hR2,ho2,_,hk0,hk1⟩
  obtain ⟨y,hy,hE2,hxy⟩:=hk0 HBK.out.1
  obtain rfl:x = y:=ok_same hy HBK.out.2
  clear hk0 hy
  rw [<- HE.out] at hE2
  obtain rfl:E = E2:=hE2.symm
  obtain rfl:x2 = dcz n:=hk1 HNE.out
  clear hk1 hxy
  have hl2:=dc_len hR2
  have hR3:=rep_all hR2
  replace K:=qH (ai K.out hb)
  replace HB:=qH (HB.out.trans (hb.mono HB.out.size))
  clear hb hR2
  refine ⟨_,rfl,trivial,?_⟩
  simp only [Act.put,PutA,PutZ,PutS]
  refine sq1 (.tuple #[.agg (List.toArray vs2),.int .i64 E]) ?_
  refine sq1 (.agg (List.toArray vs2)) ?_
  refine sq1i E ?_
  obtain ⟨M,hM⟩:=gX (w8.heap.size)
  have HM:=qH hM
  clear hM
  refine aq (.pointer (some ⟨w8.heap.size,0,none⟩)) (w8.alloc (.cells #[.slice none 0 0,.slice none 0 0,.int .i64 0,.int .i64 0,.slice none 0 0,.slice none 0 0,.slice none 0 0,.slice none 0 0,.slice none 0 0,.slice none 0 0,.slice none 0 0] 49)) (by go_simp) trivial ?_
  simp only [Act.put,PutA,PutZ,PutS]
  refine au 49 _ _ rfl rfl w8.heap.size 49 #[.slice none 0 0,.slice none 0 0,.int .i64 0,.int .i64 0,.slice none 0 0,.slice none 0 0,.slice none 0 0,.slice none 0 0,.slice none 0 0,.slice none 0 0,.slice none 0 0] vs2 rfl rfl (heap_alloc_new w8 _) (by rw [hl2]; exact bx) ho2 (by rw [hl2]; rfl) ?_
  intro wq hm hg
  have hb:=below_new (Nat.le_refl _) _ hg
  have HR2:=qH (Rp.below (bG n) hR3 (fun b hb => hb) hb)
  rw [<- HM.out] at hm HR2 ⊢
  clear hg hR3
  replace K:=qH (ai K.out hb)
  replace HB:=qH (HB.out.trans (hb.mono HB.out.size))
  clear hb
  refine ⟨trivial,?_⟩
  refine sq1i E ?_
  refine ad ?_
  have HM2:=qH hm
  have HMW:Hid (M≤wq.heap.size):=qH (Nat.le_of_lt (ac hm))
  clear hm ho2
  have C:=qH (eq22 n (fun b => b < M) wq vs2 [.slice none 0 0,.slice none 0 0,.int .i64 0,.int .i64 0,.slice none 0 0,.slice none 0 0,.slice none 0 0,.slice none 0 0,.slice none 0 0,.slice none 0 0,.slice none 0 0] (dcz n) (dcz n) HR2.out (dcz_rep n wq _) hl2 rfl (fun b hb => Nat.lt_of_lt_of_le hb HMW.out))
  go_upto_region 7 with fail
  refine aB ?_
  simp only [List.map]
  refine gd2 (.string ⟨#[]⟩) ?_
  refine gd2b true ?_
  refine gd2b true ?_
  refine gd2i E ?_
  refine gd2i E ?_
  refine gd2b true ?_
  refine gd2b true ?_
  refine gd2b true ?_
  refine gd2i E ?_
  refine gd2i E ?_
  refine gd2b true ?_
  refine gd2b true ?_
  refine gd2b true ?_
  refine av rfl ?_
  refine as_ 49 _ rfl M 49 vs2.toArray _ rfl HM2.out Tryz.underlying49 rfl (by rw [List.size_toArray,hl2]; exact bx) trivial ?_
  refine ad ?_
  simp only [Act.put,PutA,PutZ,PutS]
  refine gd2 (.agg #[.slice none 0 0,.slice none 0 0,.int .i64 0,.int .i64 0,.slice none 0 0,.slice none 0 0,.slice none 0 0,.slice none 0 0,.slice none 0 0,.slice none 0 0,.slice none 0 0]) ?_
  refine av rfl ?_
  refine ae 22 #[.agg (List.toArray vs2),.agg #[.slice none 0 0,.slice none 0 0,.int .i64 0,.int .i64 0,.slice none 0 0,.slice none 0 0,.slice none 0 0,.slice none 0 0,.slice none 0 0,.slice none 0 0,.slice none 0 0]] (by go_simp) ?_
  refine C.out.mono ?_
  rintro e w9 ⟨r,rfl,hr,hb⟩
  obtain rfl:r = true:=hr.2 rfl
  replace K:=qH (ai K.out hb)
  replace HB:=qH (HB.out.trans (hb.mono HB.out.size))
  clear hb C hr
  refine ⟨_,rfl,trivial,?_⟩
  refine ad ?_
  simp only [Act.put,PutA,PutZ,PutS]
  refine gd2b true ?_
  refine av rfl ?_
  refine aU (.bool true) (by go_simp) trivial ?_
  refine ad ?_
  simp only [Act.put,PutA,PutZ,PutS]
  refine NoPanic.normal (NoPanic.normal ?_)
  clear K
  go_wp2_with fail
  go_ret
  exact ⟨rfl,HB.out⟩
 subst he
 have C:=qH (encode21 n G w3 [.slice fA fn fc,h0,h1,h2,h3,h4,.slice rA rn rc,s0,s1,s2,s3] x (Rp.below (bG n) HRX.out HG.out HB.out) (fun b h => Nat.lt_of_lt_of_le (HG.out b h) HB.out.size) (by have:=HZX.out; omega))
 unfold EncR at C
 rw [<- HE.out,if_pos rfl,<- HS.out] at C
 go_upto_region 3 with fail
 refine af (by rfl) ?_
 simp only [List.map]
 refine as_ 49 _ rfl N 49 #[.slice fA fn fc,h0,h1,h2,h3,h4,.slice rA rn rc,s0,s1,s2,s3] _ rfl K.out Tryz.underlying49 rfl bx trivial ?_
 simp only [Act.put,PutA,PutZ,PutS]
 refine ae 21 #[.agg #[.slice fA fn fc,h0,h1,h2,h3,h4,.slice rA rn rc,s0,s1,s2,s3]] (by go_simp) ?_
 refine C.out.mono ?_
 rintro e w5 ⟨rfl,hb⟩
 replace K:=qH (ai K.out hb)
 replace HB:=qH (HB.out.trans (hb.mono HB.out.size))
 clear hb C
 refine ⟨_,rfl,trivial,?_⟩
 simp only [Act.put,PutA,PutZ,PutS]
 refine sq1 (.tuple #[.string S,.int .i64 0]) ?_
 refine sq1 (.string S) ?_
 refine sq1i 0 ?_
 refine sq1 (.string S) ?_
 refine sq1i 0 ?_
 refine ad ?_
 have C:=qH (check_doc n G w5 [.slice fA fn fc,h0,h1,h2,h3,h4,.slice rA rn rc,s0,s1,s2,s3] x (Rp.below (bG n) HRX.out HG.out HB.out) (fun b h => Nat.lt_of_lt_of_le (HG.out b h) HB.out.size) (by have:=HZX.out; omega))
 rw [<- HE.out] at C
 go_upto_region 4 with fail
 refine af (by rfl) ?_
 simp only [List.map]
 refine as_ 49 _ rfl N 49 #[.slice fA fn fc,h0,h1,h2,h3,h4,.slice rA rn rc,s0,s1,s2,s3] _ rfl K.out Tryz.underlying49 rfl bx trivial ?_
 simp only [Act.put,PutA,PutZ,PutS]
 refine ae 20 #[.agg #[.slice fA fn fc,h0,h1,h2,h3,h4,.slice rA rn rc,s0,s1,s2,s3]] (by go_simp) ?_
 refine C.out.mono ?_
 rintro e w6 ⟨rfl,hb⟩
 replace K:=qH (ai K.out hb)
 replace HB:=qH (HB.out.trans (hb.mono HB.out.size))
 clear hb C
 refine ⟨_,rfl,trivial,?_⟩
 simp only [Act.put,PutA,PutZ,PutS]
 refine sq1i 0 ?_
 refine ad ?_
 go_upto_region 8 with fail
 refine af (by rfl) ?_
 simp only [List.map]
 refine sq1 (.string S) ?_
 refine ae 38 #[.string S] (by go_simp) ?_
 refine Calls.mono (Dec38 n S w6 (by have:=HSZ.out; omega) (by have:=HSZ.out; omega)) ?_
 rintro e w7 ⟨hb,vs2,x2,E2,rfl,hR2,ho2,_,hk0,hk1⟩
 obtain ⟨y,hy,hE2,hxy⟩:=hk0 HBK.out.1
 obtain rfl:x = y:=ok_same hy HBK.out.2
 clear hk0 hy
 rw [<- HE.out] at hE2
 subst hE2
 obtain rfl:x = x2:=(hxy rfl).symm
 clear hk1 hxy
 have hl2:=dc_len hR2
 have hR3:=rep_all hR2
 replace K:=qH (ai K.out hb)
 replace HB:=qH (HB.out.trans (hb.mono HB.out.size))
 clear hb hR2
 refine ⟨_,rfl,trivial,?_⟩
 simp only [Act.put,PutA,PutZ,PutS]
 refine sq1 (.tuple #[.agg (List.toArray vs2),.int .i64 0]) ?_
 refine sq1 (.agg (List.toArray vs2)) ?_
 refine sq1i 0 ?_
 obtain ⟨M,hM⟩:=gX (w7.heap.size)
 have HM:=qH hM
 clear hM
 refine aq (.pointer (some ⟨w7.heap.size,0,none⟩)) (w7.alloc (.cells #[.slice none 0 0,.slice none 0 0,.int .i64 0,.int .i64 0,.slice none 0 0,.slice none 0 0,.slice none 0 0,.slice none 0 0,.slice none 0 0,.slice none 0 0,.slice none 0 0] 49)) (by go_simp) trivial ?_
 simp only [Act.put,PutA,PutZ,PutS]
 refine au 49 _ _ rfl rfl w7.heap.size 49 #[.slice none 0 0,.slice none 0 0,.int .i64 0,.int .i64 0,.slice none 0 0,.slice none 0 0,.slice none 0 0,.slice none 0 0,.slice none 0 0,.slice none 0 0,.slice none 0 0] vs2 rfl rfl (heap_alloc_new w7 _) (by rw [hl2]; exact bx) ho2 (by rw [hl2]; rfl) ?_
 intro wq hm hg
 have hb:=below_new (Nat.le_refl _) _ hg
 have HR2:=qH (Rp.below (bG n) hR3 (fun b hb => hb) hb)
 rw [<- HM.out] at hm HR2 ⊢
 clear hg hR3
 replace K:=qH (ai K.out hb)
 replace HB:=qH (HB.out.trans (hb.mono HB.out.size))
 clear hb
 refine ⟨trivial,?_⟩
 refine sq1i 0 ?_
 refine ad ?_
 have HM2:=qH hm
 have HMW:Hid (M≤wq.heap.size):=qH (Nat.le_of_lt (ac hm))
 clear hm ho2
 have HRZ:Hid (dcP n wq (fun b => b < wq.heap.size) [.slice fA fn fc,h0,h1,h2,h3,h4,.slice rA rn rc,s0,s1,s2,s3] x):=qH (bG n _ _ _ _ _ _ (fun b h => h) (fun b _ _ => rfl) (bG n _ _ _ _ _ _ (fun b h => Nat.lt_of_lt_of_le (HG.out b h) HB.out.size) (fun b hg _ => HB.out.block b (HG.out b hg)) HRX.out))
 have HR3:Hid (dcP n wq (fun b => b < wq.heap.size) (vs2) x):=qH (bG n _ _ _ _ _ _ (fun b h => Nat.lt_of_lt_of_le h HMW.out) (fun b _ _ => rfl) HR2.out)
 have C:=qH (str_doc n G wq [.slice fA fn fc,h0,h1,h2,h3,h4,.slice rA rn rc,s0,s1,s2,s3] x (Rp.below (bG n) HRX.out HG.out HB.out) (fun b h => Nat.lt_of_lt_of_le (HG.out b h) HB.out.size) (by have:=HZX.out; have:aT.length = 4:=rfl; rw [List.length_append]; omega))
 unfold StrE at C
 rw [<- HS.out] at C
 go_upto_region 9 with fail
 refine aB ?_
 simp only [List.map]
 refine gd2 (.string S) ?_
 refine av rfl ?_
 refine as_ 49 _ rfl N 49 #[.slice fA fn fc,h0,h1,h2,h3,h4,.slice rA rn rc,s0,s1,s2,s3] _ rfl K.out Tryz.underlying49 rfl bx trivial ?_
 refine ad ?_
 simp only [Act.put,PutA,PutZ,PutS]
 refine av rfl ?_
 refine ae 37 #[.agg #[.slice fA fn fc,h0,h1,h2,h3,h4,.slice rA rn rc,s0,s1,s2,s3]] (by go_simp) ?_
 refine C.out.mono ?_
 rintro e w9 ⟨rfl,hb⟩
 have HMM:=qH (ai HM2.out hb)
 have HRZ9:=qH (Rp.below (bG n) HRZ.out (fun b hb => hb) hb)
 have HR39:=qH (Rp.below (bG n) HR3.out (fun b hb => hb) hb)
 have C2:=qH (eq22 n (fun b => b < wq.heap.size) w9 vs2 [.slice fA fn fc,h0,h1,h2,h3,h4,.slice rA rn rc,s0,s1,s2,s3] x x HR39.out HRZ9.out hl2 rfl (fun b h => Nat.lt_of_lt_of_le h hb.size))
 replace K:=qH (ai K.out hb)
 replace HB:=qH (HB.out.trans (hb.mono HB.out.size))
 clear hb C
 refine ⟨_,rfl,trivial,?_⟩
 refine ad ?_
 simp only [Act.put,PutA,PutZ,PutS]
 refine gd2b true ?_
 refine gd2b true ?_
 refine gd2i 0 ?_
 refine gd2b true ?_
 refine gd2b true ?_
 refine gd2b true ?_
 refine gd2i 0 ?_
 refine gd2b true ?_
 refine gd2b true ?_
 refine gd2b true ?_
 refine av rfl ?_
 refine as_ 49 _ rfl M 49 vs2.toArray _ rfl HMM.out Tryz.underlying49 rfl (by rw [List.size_toArray,hl2]; exact bx) trivial ?_
 refine ad ?_
 simp only [Act.put,PutA,PutZ,PutS]
 refine av rfl ?_
 refine as_ 49 _ rfl N 49 #[.slice fA fn fc,h0,h1,h2,h3,h4,.slice rA rn rc,s0,s1,s2,s3] _ rfl K.out Tryz.underlying49 rfl bx trivial ?_
 refine ad ?_
 simp only [Act.put,PutA,PutZ,PutS]
 refine av rfl ?_
 refine ae 22 #[.agg (List.toArray vs2),.agg #[.slice fA fn fc,h0,h1,h2,h3,h4,.slice rA rn rc,s0,s1,s2,s3]] (by go_simp) ?_
 refine C2.out.mono ?_
 rintro e w10 ⟨r,rfl,hr,hb⟩
 obtain rfl:r = true:=hr.2 rfl
 replace K:=qH (ai K.out hb)
 replace HB:=qH (HB.out.trans (hb.mono HB.out.size))
 clear hb C2 hr
 refine ⟨_,rfl,trivial,?_⟩
 refine ad ?_
 simp only [Act.put,PutA,PutZ,PutS]
 refine gd2b true ?_
 refine av rfl ?_
 refine aU (.bool true) (by go_simp) trivial ?_
 refine ad ?_
 simp only [Act.put,PutA,PutZ,PutS]
 refine NoPanic.normal (NoPanic.normal ?_)
 clear K
 go_wp2_with fail
 go_ret
 exact ⟨rfl,HB.out⟩
end Go.Proofs.YtmhhcfceikcfbaaGreat
