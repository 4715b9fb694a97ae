/- Walk: the law on documents. -/
import Derived.Test.YtmhhcfceikcfbaaGreatCuBk
import Derived.Test.YtmhhcfceikcfbaaGreatCuSm1
namespace Go.Proofs.YtmhhcfceikcfbaaGreat
open Go.RowKit
set_option maxRecDepth 100000
set_option maxHeartbeats 4000000
theorem dc_len {n:Nat} {w:World} {G:Nat→Prop} {vs:List Value} {x:Dc n} (h:dcP n w G vs x):vs.length = 11:=by
 obtain ⟨_,_,_,_,_,_,_,_,_,_,_,rfl,_⟩:=h
 rfl
end Go.Proofs.YtmhhcfceikcfbaaGreat
namespace Go.Proofs.YtmhhcfceikcfbaaGreat
open Go.RowKit
set_option maxRecDepth 100000
set_option maxHeartbeats 4000000
theorem cuts_any (n m k:Nat) (G:Nat→Prop) (w:World) (vs us:List Value) (x:Dc n) (y:Sp m) (hx:dcP n w G vs x) (hy:spP m w G us y) (hG:∀ b,G b→b < w.heap.size) (hzx:(dcE n x).length≤10485760) (hzy:(spE m y).length≤10485760) (hn:10485764 < n) (hm:10485760 < m) (hk:k < 65536):Calls Tryz.prog 9 #[.agg vs.toArray,.agg us.toArray,.int .u16 (k:Int)] w (TrueC w):=by
 have hdx:=dom_dc n _ _ _ _ hx
 have hdy:=dom_sp m _ _ _ _ hy
 have hRy0:=hy
 obtain ⟨va,vb,rfl,hla,hii,ta,tb⟩:=hy
 obtain ⟨a0,a1,a2,a3,a4,a5,a6,a7,a8,a9,a10,a11,rfl⟩:=len_12 hla
 obtain ⟨b0,b1,b2,b3,b4,b5,b6,b7,b8,b9,b10,b11,rfl⟩:=len_12 (pc_len2 tb)
 obtain ⟨k0,k1,k2,k3,y5,y6⟩:=y
 obtain ⟨y,hyy⟩:∃ y:Sp m,y = (k0,k1,k2,k3,y5,y6):=⟨_,rfl⟩
 have hRy:spP m w G [.int .i64 k0,.int .i64 k1,.int .i64 k2,.int .i64 k3,a0,a1,a2,a3,a4,a5,a6,a7,a8,a9,a10,a11,b0,b1,b2,b3,b4,b5,b6,b7,b8,b9,b10,b11] y:=by rw [hyy]; exact hRy0
 rw [<- hyy] at hdy hzy
 clear hRy0 hla hii hyy
 simp only at ta tb
 obtain ⟨f0,h0,h1,h2,h3,h4,r0,s0,s1,s2,s3,rfl,A0,A1,A2,A3⟩:=hx
 have hRx:dcP n w G [f0,h0,h1,h2,h3,h4,r0,s0,s1,s2,s3] x:=⟨_,_,_,_,_,_,_,_,_,_,_,rfl,A0,A1,A2,A3⟩
 obtain ⟨fA,fc,rfl,_,_⟩:=A0.shape
 obtain ⟨rA,rc,rfl,_,hrm⟩:=A2.shape
 obtain ⟨fn,hfn⟩:=gX (x.1.length)
 obtain ⟨rn,hrn⟩:=gX (x.2.2.1.length)
 rw [<- hfn] at A0 hRx
 rw [<- hrn] at A2 hRx
 show Calls Tryz.prog 9 #[.agg #[.slice fA x.1.length fc,h0,h1,h2,h3,h4,.slice rA x.2.2.1.length rc,s0,s1,s2,s3],.agg #[.int .i64 k0,.int .i64 k1,.int .i64 k2,.int .i64 k3,a0,a1,a2,a3,a4,a5,a6,a7,a8,a9,a10,a11,b0,b1,b2,b3,b4,b5,b6,b7,b8,b9,b10,b11],.int .u16 (k:Int)] w _
 rw [<- hfn,<- hrn]
 clear hfn hrn hrm
 obtain ⟨N,hN⟩:=gX (w.heap.size)
 obtain ⟨W,hW⟩:=gX ((w.alloc (.cells #[.slice fA fn fc,h0,h1,h2,h3,h4,.slice rA rn rc,s0,s1,s2,s3] 49)).alloc (.cells #[.int .i64 k0,.int .i64 k1,.int .i64 k2,.int .i64 k3,a0,a1,a2,a3,a4,a5,a6,a7,a8,a9,a10,a11,b0,b1,b2,b3,b4,b5,b6,b7,b8,b9,b10,b11] 77))
 have hb1:W.heap[N]? = some (.cells #[.slice fA fn fc,h0,h1,h2,h3,h4,.slice rA rn rc,s0,s1,s2,s3] 49 (0,0)):=by rw [hW,hN]; exact (Below.heap_alloc _ _ _ (by simp)).trans (heap_alloc_new _ _)
 have hb2:W.heap[N + 1]? = some (.cells #[.int .i64 k0,.int .i64 k1,.int .i64 k2,.int .i64 k3,a0,a1,a2,a3,a4,a5,a6,a7,a8,a9,a10,a11,b0,b1,b2,b3,b4,b5,b6,b7,b8,b9,b10,b11] 77 (0,0)):=by rw [hW,hN]; exact ag _ _ (by simp)
 have hB:Below w.heap.size w W:=by rw [hW]; exact ((Below.refl _ _).alloc (Nat.le_refl _) _).alloc (by simp) _
 have HDX:=qH hdx
 have HZX:=qH hzx
 have HZY:=qH hzy
 have HDY:=qH hdy
 have HRY:=qH hRy
 have HPA:=qH ta
 have HPB:=qH tb
 have J:=qH hb2
 have HRX:=qH hRx
 have HA0:=qH A0
 have HA1:=qH A1
 have HA3:=qH A3
 have HG:=qH hG
 have HW:=qH hW
 have HN:=qH hN
 have HB:=qH hB
 have K:=qH hb1
 clear hdy hzy hRy ta tb hb2 hdx hzx hRx A0 A1 A2 A3 hG hW hN hB hb1
 go_enter Tryz.func9,Tryz.ntmps9
 go_upto_region 1 with fail
 rw [<- HW.out,<- HN.out]
 clear HW
 go_wp2_with fail
 refine (known15b _).mono ?_
 rintro e w1 ⟨rfl,hb⟩
 replace K:=qH (aj K.out hb)
 replace J:=qH (aj J.out hb)
 replace HB:=qH (HB.out.trans (hb.mono HB.out.size))
 clear hb
 obtain ⟨M,hM⟩:=gX (w1.heap.size)
 obtain ⟨X,hX⟩:=gX ((w1.alloc (.cells #[.int .i64 0,.int .i64 0,.int .i64 0,.string ⟨#[]⟩,h0,h1,h2,h3,h4,.slice none 0 0,.slice none 0 0] 53)).alloc (.cells #[.slice fA fn fc,.slice (some ⟨M,0,none⟩) 1 1] 33))
 have b2:X.heap[M]? = some (.cells #[.int .i64 0,.int .i64 0,.int .i64 0,.string ⟨#[]⟩,h0,h1,h2,h3,h4,.slice none 0 0,.slice none 0 0] 53 (0,0)):=by
  rw [hX,hM]
  exact (Below.heap_alloc _ _ _ (by simp)).trans (heap_alloc_new _ _)
 have b3:X.heap[M + 1]? = some (.cells #[.slice fA fn fc,.slice (some ⟨M,0,none⟩) 1 1] 33 (0,0)):=by
  rw [hX,hM]
  exact ag _ _ (by simp)
 have hBX:Below w1.heap.size w1 X:=by
  rw [hX]
  exact ((Below.refl _ _).alloc (Nat.le_refl _) _).alloc (by simp) _
 have hXs:X.heap.size = M + 2:=by rw [hX,hM]; simp
 have hbX:=HB.out.trans (hBX.mono HB.out.size)
 have hH2:hdP X (fun b => G b∨b = M) [h0,h1,h2,h3,h4] x.2.1:=aE _ _ _ _ _ _ (fun b h => .inl h) (fun b hg hl => hbX.block b hl) HA1.out
 have k3:Slv (itP (n + 1)) 11 X (fun b => G b∨b = M) (.slice (some ⟨M,0,none⟩) 1 1) _:=slv_one b2 rfl (.inr rfl) (x:=((0:Int),(0:Int),(0:Int),(⟨#[]⟩:ByteArray),x.2.1,([]:List (It n)),([]:List (Rw n))))
  ⟨_,_,_,_,_,_,_,rfl,⟨i64_0,i64_0,i64_0,Nat.zero_le _⟩,hH2,Slv.nil _ _,Slv.nil _ _⟩
 have hGX:∀ b,(G b∨b = M)→b < X.heap.size:=by
  rintro b (h | h)
  ·have:=HG.out b h; have:=hbX.size; omega
  omega
 have k0:Slv (itP n) 11 X (fun b => G b∨b = M) (.slice fA fn fc) x.1:=HA0.out.mono (as_ n) HG.out (fun b h => .inl h) hbX
 have C18:=qH (small18 X X [.slice fA fn fc,.slice (some ⟨M,0,none⟩) 1 1] (M + 1) 0 2 (fun j u hu => by rw [Nat.zero_add,aa b3 j]; simpa using hu) (by simp) (by omega) (Below.refl _ _) (by
  intro v hv Y hY
  simp only [List.mem_cons,List.not_mem_nil,or_false] at hv
  rcases hv with rfl | rfl
  ·exact weight_any n _ Y _ _ (k0.below (as_ n) hGX hY) (fun b h => Nat.lt_of_lt_of_le (hGX b h) hY.size)
  exact weight_any (n + 1) _ Y _ _ (k3.below (as_ (n + 1)) hGX hY) (fun b h => Nat.lt_of_lt_of_le (hGX b h) hY.size)))
 have HX:=qH hX
 have HM:=qH hM
 have HBX:=qH hBX
 clear b2 b3 hXs hH2 k3 k0 hGX hX hM hBX hbX
 have p0:=aa K.out 0
 have p1:=aa K.out 1
 have p2:=aa K.out 2
 have p3:=aa K.out 3
 have p4:=aa K.out 4
 have p5:=aa K.out 5
 go_wp2_with fail
 rw [<- HM.out,<- HX.out]
 refine C18.out.mono ?_
 rintro e w2 ⟨b2,rfl,hb2⟩
 have hb:=HBX.out.trans (hb2.mono HBX.out.size)
 replace K:=qH (aj K.out hb)
 replace J:=qH (aj J.out hb)
 replace HB:=qH (HB.out.trans (hb.mono HB.out.size))
 clear hb hb2 C18 HX HM HBX p0 p1 p2 p3 p4 p5
 cases b2
 ·go_wp2_with fail
  refine (known15b _).mono ?_
  rintro e wk ⟨rfl,hb⟩
  replace HB:=qH (HB.out.trans (hb.mono HB.out.size))
  clear hb K J
  go_wp2_with fail
  go_ret
  exact ⟨rfl,HB.out⟩
 have p7:=aa K.out 7
 have p8:=aa K.out 8
 have p9:=aa K.out 9
 have p10:=aa K.out 10
 have C:=qH (few19 G w2 [s0,s1,s2,s3] _ (Rp.below bq HA3.out HG.out HB.out) (fun b h => Nat.lt_of_lt_of_le (HG.out b h) HB.out.size))
 go_wp2_with fail
 refine C.out.mono ?_
 rintro e w3 ⟨b2,rfl,hb⟩
 replace K:=qH (aj K.out hb)
 replace J:=qH (aj J.out hb)
 replace HB:=qH (HB.out.trans (hb.mono HB.out.size))
 clear hb C p7 p8 p9 p10
 cases b2
 ·go_wp2_with fail
  refine (known15b _).mono ?_
  rintro e wk ⟨rfl,hb⟩
  replace HB:=qH (HB.out.trans (hb.mono HB.out.size))
  clear hb K J
  go_wp2_with fail
  go_ret
  exact ⟨rfl,HB.out⟩
 have p6:=aa K.out 6
 by_cases hl:40 < rn
 ·have g1:decide ((40:Int) < (rn:Int)) = true:=by simp; omega
  have g2:decide (40 < rn) = true:=by simpa using hl
  clear hl
  go_wp2_with fail
  refine (known15b _).mono ?_
  rintro e wk ⟨rfl,hb⟩
  replace HB:=qH (HB.out.trans (hb.mono HB.out.size))
  clear hb K J
  go_wp2_with fail
  go_ret
  exact ⟨rfl,HB.out⟩
 have g1:decide ((40:Int) < (rn:Int)) = false:=by simp; omega
 have g2:decide (40 < rn) = false:=by simpa using hl
 clear hl
 have q0:=aa J.out 4
 have q1:=aa J.out 5
 have q2:=aa J.out 6
 have q3:=aa J.out 7
 have q4:=aa J.out 8
 have q5:=aa J.out 9
 have q6:=aa J.out 10
 have q7:=aa J.out 11
 have q8:=aa J.out 12
 have q9:=aa J.out 13
 have q10:=aa J.out 14
 have q11:=aa J.out 15
 have C:=qH (smallPiece33 m G w3 [a0,a1,a2,a3,a4,a5,a6,a7,a8,a9,a10,a11] _ (Rp.below (stb_pc m) HPA.out HG.out HB.out) (fun b h => Nat.lt_of_lt_of_le (HG.out b h) HB.out.size))
 go_wp2_with fail
 refine C.out.mono ?_
 rintro e w4 ⟨b2,rfl,hb⟩
 replace K:=qH (aj K.out hb)
 replace J:=qH (aj J.out hb)
 replace HB:=qH (HB.out.trans (hb.mono HB.out.size))
 clear hb C q0 q1 q2 q3 q4 q5 q6 q7 q8 q9 q10 q11
 cases b2
 ·go_wp2_with fail
  refine (known15b _).mono ?_
  rintro e wk ⟨rfl,hb⟩
  replace HB:=qH (HB.out.trans (hb.mono HB.out.size))
  clear hb K J
  go_wp2_with fail
  go_ret
  exact ⟨rfl,HB.out⟩
 have q0:=aa J.out 16
 have q1:=aa J.out 17
 have q2:=aa J.out 18
 have q3:=aa J.out 19
 have q4:=aa J.out 20
 have q5:=aa J.out 21
 have q6:=aa J.out 22
 have q7:=aa J.out 23
 have q8:=aa J.out 24
 have q9:=aa J.out 25
 have q10:=aa J.out 26
 have q11:=aa J.out 27
 have C:=qH (smallPiece33 m G w4 [b0,b1,b2,b3,b4,b5,b6,b7,b8,b9,b10,b11] _ (Rp.below (stb_pc m) HPB.out HG.out HB.out) (fun b h => Nat.lt_of_lt_of_le (HG.out b h) HB.out.size))
 go_wp2_with fail
 refine C.out.mono ?_
 rintro e w5 ⟨b2,rfl,hb⟩
 replace K:=qH (aj K.out hb)
 replace J:=qH (aj J.out hb)
 replace HB:=qH (HB.out.trans (hb.mono HB.out.size))
 clear hb C q0 q1 q2 q3 q4 q5 q6 q7 q8 q9 q10 q11
 cases b2
 ·go_wp2_with fail
  refine (known15b _).mono ?_
  rintro e wk ⟨rfl,hb⟩
  replace HB:=qH (HB.out.trans (hb.mono HB.out.size))
  clear hb K J
  go_wp2_with fail
  go_ret
  exact ⟨rfl,HB.out⟩
 obtain ⟨T,hT⟩:=gX (mkB (spE m y))
 have hposT:0 < T.size:=by rw [hT,mkB_size]; exact List.length_pos_iff.2 (sp_ne y)
 have hTz:T.size≤10485760:=by rw [hT,mkB_size]; exact HZY.out
 have HT:=qH hT
 have HTZ:=qH hTz
 have ek1:IntKind.i64.wrap (k:Int) = (k:Int):=IntWalk.i64_in _ (by omega)
 have ek2:wrap64 (k:Int) = (k:Int):=IntWalk.wrap64_in _ (by omega)
 have HEK:=qH ek1
 have HEK2:=qH ek2
 clear hT hTz ek1 ek2
 have C:=qH (str_splice m G w5 [.int .i64 k0,.int .i64 k1,.int .i64 k2,.int .i64 k3,a0,a1,a2,a3,a4,a5,a6,a7,a8,a9,a10,a11,b0,b1,b2,b3,b4,b5,b6,b7,b8,b9,b10,b11] y (Rp.below (stb_sp m) HRY.out HG.out HB.out) (fun b h => Nat.lt_of_lt_of_le (HG.out b h) HB.out.size) (by have:=HZY.out; omega))
 unfold StrE at C
 rw [<- HT.out] at C
 go_upto_region 3 with fail
 refine af (by rfl) ?_
 simp only [List.map]
 refine aH 77 _ rfl (N + 1) 77 #[.int .i64 k0,.int .i64 k1,.int .i64 k2,.int .i64 k3,a0,a1,a2,a3,a4,a5,a6,a7,a8,a9,a10,a11,b0,b1,b2,b3,b4,b5,b6,b7,b8,b9,b10,b11] _ rfl J.out Tryz.underlying77 rfl size77 trivial ?_
 simp only [Act.put,PutA,PutZ,PutS]
 refine ad 36 #[.agg #[.int .i64 k0,.int .i64 k1,.int .i64 k2,.int .i64 k3,a0,a1,a2,a3,a4,a5,a6,a7,a8,a9,a10,a11,b0,b1,b2,b3,b4,b5,b6,b7,b8,b9,b10,b11]] (by go_simp) ?_
 refine C.out.mono ?_
 rintro e w6 ⟨rfl,hb⟩
 replace K:=qH (aj K.out hb)
 replace J:=qH (aj J.out hb)
 replace HB:=qH (HB.out.trans (hb.mono HB.out.size))
 clear hb C
 refine ⟨_,rfl,trivial,?_⟩
 simp only [Act.put,PutA,PutZ,PutS]
 refine sq1 (.string T) ?_
 refine ae ?_
 obtain ⟨q,hq⟩:=gX (k % T.size)
 have hlq:q < T.size:=by rw [hq]; exact Nat.mod_lt _ hposT
 have hm1q:(k:Int) % (T.size:Int) = (q:Int):=by rw [hq]; rfl
 have hm2q:Int.tmod (k:Int) (T.size:Int) = (q:Int):=by rw [hq]; exact (Int.ofNat_tmod k T.size).symm
 have hm3q:k % T.size = q:=hq.symm
 have hz1q:¬ ((T.size:Int) = 0):=by omega
 have hz2q:((T.size:Int) == 0) = false:=by rw [beq_eq_false_iff_ne]; omega
 have hz3q:(T.size == 0) = false:=by rw [beq_eq_false_iff_ne]; omega
 have hz4q:¬ T.size = 0:=by omega
 have hIq:(q:Int)≤(T.size:Int):=by omega
 have hJq:¬ (q:Int) < 0:=by omega
 have HLq:=qH hlq
 clear hq
 have HE1:=qH (show decErr (spR m) (al (T.extract 0 q)) = 34 by
  have h1:=HLq.out
  rw [HT.out] at h1 ⊢
  exact cut_whole (fit_spD m) (byt_sp m) HDY.out h1)
 have hqz:(T.extract 0 q).size≤10485760:=by simp; have:=HTZ.out; omega
 have HQZ:=qH hqz
 clear hqz
 have ek1:=HEK.out
 have ek2:=HEK2.out
 go_upto_region 4 with fail
 refine af (by rfl) ?_
 simp only [List.map]
 refine sq1 (.string T) ?_
 refine sq1 (.int .u16 (k:Int)) ?_
 refine sq1i (k:Int) ?_
 refine sq1 (.string T) ?_
 refine sq1i (T.size:Int) ?_
 refine sq1i (q:Int) ?_
 refine sq1 (.string (T.extract 0 q)) ?_
 clear hlq hm1q hm2q hm3q hz1q hz2q hz3q hz4q hIq hJq hposT
 clear ek1 ek2
 obtain ⟨T2,hT2⟩:=gX (T.extract 0 q)
 rw [<- hT2] at HE1 HQZ ⊢
 clear hT2
 refine ad 35 #[.string T2] (by go_simp) ?_
 refine Calls.mono (Dec35 m T2 w6 (by have:=HQZ.out; omega) (by have:=HQZ.out; omega)) ?_
 rintro e w7 ⟨hb,vs2,x2,rfl,hR2,ho2,_,_⟩
 rw [HE1.out]
 have hl2:=sp_len hR2
 clear hR2
 replace K:=qH (aj K.out hb)
 replace J:=qH (aj J.out hb)
 replace HB:=qH (HB.out.trans (hb.mono HB.out.size))
 clear hb
 refine ⟨_,rfl,trivial,?_⟩
 simp only [Act.put,PutA,PutZ,PutS]
 refine sq1 (.tuple #[.agg (List.toArray vs2),.int .i64 34]) ?_
 refine sq1 (.agg (List.toArray vs2)) ?_
 refine sq1i 34 ?_
 refine av (.pointer (some ⟨w7.heap.size,0,none⟩)) (w7.alloc (.cells #[.int .i64 0,.int .i64 0,.int .i64 0,.int .i64 0,.slice none 0 0,.slice none 0 0,.slice none 0 0,.slice none 0 0,.int .i64 0,.int .i64 0,.slice none 0 0,.slice none 0 0,.slice none 0 0,.slice none 0 0,.slice none 0 0,.slice none 0 0,.slice none 0 0,.slice none 0 0,.slice none 0 0,.slice none 0 0,.int .i64 0,.int .i64 0,.slice none 0 0,.slice none 0 0,.slice none 0 0,.slice none 0 0,.slice none 0 0,.slice none 0 0] 77)) (by go_simp) trivial ?_
 simp only [Act.put,PutA,PutZ,PutS]
 refine aI 77 _ _ rfl rfl w7.heap.size 77 #[.int .i64 0,.int .i64 0,.int .i64 0,.int .i64 0,.slice none 0 0,.slice none 0 0,.slice none 0 0,.slice none 0 0,.int .i64 0,.int .i64 0,.slice none 0 0,.slice none 0 0,.slice none 0 0,.slice none 0 0,.slice none 0 0,.slice none 0 0,.slice none 0 0,.slice none 0 0,.slice none 0 0,.slice none 0 0,.int .i64 0,.int .i64 0,.slice none 0 0,.slice none 0 0,.slice none 0 0,.slice none 0 0,.slice none 0 0,.slice none 0 0] vs2 rfl rfl (heap_alloc_new w7 _) (by rw [hl2]; exact size77) ho2 (by rw [hl2]; rfl) ?_
 intro wq hm hg
 have hb:=below_new (Nat.le_refl _) _ hg
 clear hg hm
 replace K:=qH (aj K.out hb)
 replace J:=qH (aj J.out hb)
 replace HB:=qH (HB.out.trans (hb.mono HB.out.size))
 clear hb
 refine ⟨trivial,?_⟩
 refine sq1i 34 ?_
 refine ae ?_
 clear ho2 hl2
 obtain ⟨E,hE⟩:=gX (chkD x)
 have C:=qH (check_doc n G wq [.slice fA fn fc,h0,h1,h2,h3,h4,.slice rA rn rc,s0,s1,s2,s3] x (Rp.below (stb_dc n) HRX.out HG.out HB.out) (fun b h => Nat.lt_of_lt_of_le (HG.out b h) HB.out.size) (by have:=HZX.out; omega))
 rw [<- hE] at C
 clear hE
 go_upto_region 5 with fail
 refine af (by rfl) ?_
 simp only [List.map]
 refine aH 49 _ rfl N 49 #[.slice fA fn fc,h0,h1,h2,h3,h4,.slice rA rn rc,s0,s1,s2,s3] _ rfl K.out Tryz.underlying49 rfl size49 trivial ?_
 simp only [Act.put,PutA,PutZ,PutS]
 refine ad 20 #[.agg #[.slice fA fn fc,h0,h1,h2,h3,h4,.slice rA rn rc,s0,s1,s2,s3]] (by go_simp) ?_
 refine C.out.mono ?_
 rintro e w8 ⟨rfl,hb⟩
 replace K:=qH (aj K.out hb)
 replace J:=qH (aj J.out hb)
 replace HB:=qH (HB.out.trans (hb.mono HB.out.size))
 clear hb C
 refine ⟨_,rfl,trivial,?_⟩
 simp only [Act.put,PutA,PutZ,PutS]
 by_cases he:E = 0
 case neg =>
  have g1:(E == 0) = false:=by rw [beq_eq_false_iff_ne]; exact he
  have g2:(E != 0) = true:=by simp [bne,g1]
  refine sq1b true ?_
  refine ae ?_
  clear he K J
  go_wp2_with fail
  go_ret
  exact ⟨rfl,HB.out⟩
 subst he
 refine sq1b false ?_
 refine ae ?_
 obtain ⟨S,hS⟩:=gX (mkB (aW++dcE n x))
 have hposS:0 < S.size:=by rw [hS,(doc_bytes x).2]; omega
 have hSz:S.size≤10485764:=by have:=HZX.out; rw [hS,(doc_bytes x).2]; omega
 have HS:=qH hS
 have HSZ:=qH hSz
 clear hS hSz
 have C:=qH (str_doc n G w8 [.slice fA fn fc,h0,h1,h2,h3,h4,.slice rA rn rc,s0,s1,s2,s3] x (Rp.below (stb_dc n) HRX.out HG.out HB.out) (fun b h => Nat.lt_of_lt_of_le (HG.out b h) HB.out.size) (by have:=HZX.out; have:aW.length = 4:=rfl; rw [List.length_append]; omega))
 unfold StrE at C
 rw [<- HS.out] at C
 go_upto_region 7 with fail
 refine af (by rfl) ?_
 simp only [List.map]
 refine aH 49 _ rfl N 49 #[.slice fA fn fc,h0,h1,h2,h3,h4,.slice rA rn rc,s0,s1,s2,s3] _ rfl K.out Tryz.underlying49 rfl size49 trivial ?_
 simp only [Act.put,PutA,PutZ,PutS]
 refine ad 37 #[.agg #[.slice fA fn fc,h0,h1,h2,h3,h4,.slice rA rn rc,s0,s1,s2,s3]] (by go_simp) ?_
 refine C.out.mono ?_
 rintro e w9 ⟨rfl,hb⟩
 replace K:=qH (aj K.out hb)
 replace J:=qH (aj J.out hb)
 replace HB:=qH (HB.out.trans (hb.mono HB.out.size))
 clear hb C
 refine ⟨_,rfl,trivial,?_⟩
 simp only [Act.put,PutA,PutZ,PutS]
 refine sq1 (.string S) ?_
 refine ae ?_
 obtain ⟨p,hp⟩:=gX (k % S.size)
 have hlp:p < S.size:=by rw [hp]; exact Nat.mod_lt _ hposS
 have hm1p:(k:Int) % (S.size:Int) = (p:Int):=by rw [hp]; rfl
 have hm2p:Int.tmod (k:Int) (S.size:Int) = (p:Int):=by rw [hp]; exact (Int.ofNat_tmod k S.size).symm
 have hm3p:k % S.size = p:=hp.symm
 have hz1p:¬ ((S.size:Int) = 0):=by omega
 have hz2p:((S.size:Int) == 0) = false:=by rw [beq_eq_false_iff_ne]; omega
 have hz3p:(S.size == 0) = false:=by rw [beq_eq_false_iff_ne]; omega
 have hz4p:¬ S.size = 0:=by omega
 have hIp:(p:Int)≤(S.size:Int):=by omega
 have hJp:¬ (p:Int) < 0:=by omega
 have HLp:=qH hlp
 clear hp
 have HE2:=qH (show rdErr (dcR n) (S.extract 0 p) = 34 by
  have h1:=HLp.out
  rw [HS.out] at h1 ⊢
  exact doc_cut HDX.out h1)
 have hqz:(S.extract 0 p).size≤10485764:=by simp; have:=HSZ.out; omega
 have HPZ:=qH hqz
 clear hqz
 have ek1:=HEK.out
 have ek2:=HEK2.out
 go_upto_region 8 with fail
 refine af (by rfl) ?_
 simp only [List.map]
 refine sq1 (.string S) ?_
 refine sq1 (.int .u16 (k:Int)) ?_
 refine sq1i (k:Int) ?_
 refine sq1 (.string S) ?_
 refine sq1i (S.size:Int) ?_
 refine sq1i (p:Int) ?_
 refine sq1 (.string (S.extract 0 p)) ?_
 clear hlp hm1p hm2p hm3p hz1p hz2p hz3p hz4p hIp hJp hposS
 clear ek1 ek2
 obtain ⟨S2,hS2⟩:=gX (S.extract 0 p)
 rw [<- hS2] at HE2 HPZ ⊢
 clear hS2
 refine ad 38 #[.string S2] (by go_simp) ?_
 refine Calls.mono (Dec38 n S2 w9 HPZ.out (by have:=HPZ.out; omega)) ?_
 rintro e w10 ⟨hb,vs2,x2,E2,rfl,hR2,ho2,hk0,_,_⟩
 obtain rfl:E2 = 34:=(hk0 (by rw [HE2.out]; decide)).trans HE2.out
 have hl2:=dc_len hR2
 clear hR2 hk0
 replace K:=qH (aj K.out hb)
 replace J:=qH (aj J.out hb)
 replace HB:=qH (HB.out.trans (hb.mono HB.out.size))
 clear hb
 refine ⟨_,rfl,trivial,?_⟩
 simp only [Act.put,PutA,PutZ,PutS]
 refine sq1 (.tuple #[.agg (List.toArray vs2),.int .i64 34]) ?_
 refine sq1 (.agg (List.toArray vs2)) ?_
 refine sq1i 34 ?_
 refine av (.pointer (some ⟨w10.heap.size,0,none⟩)) (w10.alloc (.cells #[.slice none 0 0,.slice none 0 0,.int .i64 0,.int .i64 0,.slice none 0 0,.slice none 0 0,.slice none 0 0,.slice none 0 0,.slice none 0 0,.slice none 0 0,.slice none 0 0] 49)) (by go_simp) trivial ?_
 simp only [Act.put,PutA,PutZ,PutS]
 refine aI 49 _ _ rfl rfl w10.heap.size 49 #[.slice none 0 0,.slice none 0 0,.int .i64 0,.int .i64 0,.slice none 0 0,.slice none 0 0,.slice none 0 0,.slice none 0 0,.slice none 0 0,.slice none 0 0,.slice none 0 0] vs2 rfl rfl (heap_alloc_new w10 _) (by rw [hl2]; exact size49) ho2 (by rw [hl2]; rfl) ?_
 intro wq hm hg
 have hb:=below_new (Nat.le_refl _) _ hg
 clear hg hm
 replace K:=qH (aj K.out hb)
 replace J:=qH (aj J.out hb)
 replace HB:=qH (HB.out.trans (hb.mono HB.out.size))
 clear hb
 refine ⟨trivial,?_⟩
 refine sq1i 34 ?_
 refine ae ?_
 clear ho2 hl2
 clear K J
 go_wp2_with fail
 go_ret
 exact ⟨rfl,HB.out⟩
end Go.Proofs.YtmhhcfceikcfbaaGreat
