/- Walks: an item checked, the items of a flow checked. -/
import Derived.Test.YtmhhcfceikcfbaaGreatDeM7
namespace Go.Proofs.YtmhhcfceikcfbaaGreat
open Go.RowKit Go.MapKept
set_option maxRecDepth 100000
set_option maxHeartbeats 4000000
theorem wrap64_wrI (x:Int):wrap64 x = wrI x:=(IntWalk.i64_left x).symm
def ItmK {α:Type} (R:Rp α) (e:α→List Nat) (K:CK) (I:List α→Plc→Sta→Int × Sta):Prop:=∀ (G:Nat→Prop),(∀ b,G b→b < K.N)→∀ (vs:List Value) (x:ItS α) (p:Plc) (s:Sta) (w:World),CkAt K s w→isP R w G vs x→(isE e x).length≤1048576000 →
 Calls Tryz.prog 113 #[.pointer (some ⟨K.c,0,none⟩),.agg vs.toArray,plcV p] w (CkP K w (itmS K I x p s))
theorem item113 {α:Type} (R:Rp α) (hRs:Stb R) (ee:α→List Nat) (K:CK) (I:List α→Plc→Sta→Int × Sta) (hI:ItsK R ee K I):ItmK R ee K I:=by
 intro G hG vs x p s w hK hX hz
 obtain ⟨pb,pn,pt⟩:=p
 obtain ⟨h0,h1,h2,h3,h4,fv,rv,rfl,⟨_,_,_,hts0⟩,hH,hF,hRw⟩:=hX
 obtain ⟨ua0,un0,uc0,ui1,ui2,ua3,un3,uc3,ua4,un4,uc4,rfl,rfl,rfl,rfl,rfl⟩:=hd_shape hH
 obtain ⟨fA,fc,rfl,_,_⟩:=hF.shape
 obtain ⟨rA,rc,rfl,_,_⟩:=hRw.shape
 obtain ⟨k,c,id,tx,hd,fl,rl⟩:=x
 simp only at hH hF hRw hts0 ⊢
 obtain ⟨V,hV⟩:=gX (itmS K I (k,c,id,tx,hd,fl,rl) (pb,pn,pt) s)
 rw [<- hV]
 unfold itmS frmT at hV
 simp only at hV
 unfold plcV
 simp only
 have hzf:(ak ee fl).length≤1048576000:=by simp only [isE,seqE,List.length_append] at hz; omega
 have hzr:(ak (rwE ee) rl).length≤1048576000:=by simp only [isE,seqE,List.length_append] at hz; omega
 have hts:tx.size≤1048576000:=by
  have h1:(strE tx).length≤1048576000:=by simp only [isE,seqE,List.length_append] at hz; omega
  have:=strE_le tx
  omega
 obtain ⟨fn,hfn⟩:=gX (fl.length)
 obtain ⟨rn,hrn⟩:=gX (rl.length)
 rw [<- hfn] at hF hV ⊢
 rw [<- hrn] at hRw hV ⊢
 have HZF:=qH hzf
 have HZR:=qH hzr
 have HG:=qH hG
 have HI:=qH hI
 have HKw:=qH hK
 obtain ⟨w0,hw0⟩:=gX (w)
 rw [<- hw0] at hH hF hRw HKw ⊢
 obtain ⟨x,hx⟩:=gX (w0.heap.size)
 obtain ⟨p,hp⟩:=gX (w0.heap.size + 1)
 clear hz hG hI hK hw0
 obtain ⟨wa,hwa⟩:=gX (w0.alloc (.cells #[.int .i64 k,.int .i64 c,.int .i64 id,.string tx,.slice ua0 un0 uc0,.int .i64 ui1,.int .i64 ui2,.slice ua3 un3 uc3,.slice ua4 un4 uc4,.slice fA fn fc,.slice rA rn rc] 53))
 obtain ⟨wb,hwb⟩:=gX (wa.alloc (.cells #[.bool pb,.bool pn,.int .i64 pt] 126))
 have ba:Below w0.heap.size w0 wa:=by rw [hwa]; exact ag _ _
 have bb:Below wa.heap.size wa wb:=by rw [hwb]; exact ag _ _
 have za:wa.heap.size = p:=by rw [hwa,bM,hp]
 have HKx:Hid (wb.heap[x]? = some (.cells #[.int .i64 k,.int .i64 c,.int .i64 id,.string tx,.slice ua0 un0 uc0,.int .i64 ui1,.int .i64 ui2,.slice ua3 un3 uc3,.slice ua4 un4 uc4,.slice fA fn fc,.slice rA rn rc] 53 (0,0))):=qH (ai (by rw [hwa]; exact ah _ _ hx) bb)
 have HKp:Hid (wb.heap[p]? = some (.cells #[.bool pb,.bool pn,.int .i64 pt] 126 (0,0))):=qH (by rw [hwb]; exact ah _ _ za.symm)
 have HK0:=qH ((HKw.out.over ba).over bb)
 have HC0:Hid (Ch K.c K.m4 w0 wb):=qH ((Ch.of_below ba).trans (Ch.of_below bb))
 have nx:Hid (x≠K.c∧x≠K.m4):=qH (by have:=HKw.out.size; omega)
 have np:Hid (p≠K.c∧p≠K.m4):=qH (by have:=HKw.out.size; omega)
 have HBN0:Below K.N w0 wb:=HC0.out.below HKw.out.nc HKw.out.nm HKw.out.le
 have HH:=qH (Rp.below ay hH HG.out HBN0)
 have HFV:=qH (hF.below hRs HG.out HBN0)
 have HRV:=qH (hRw.below (bs hRs) HG.out HBN0)
 have HW:Hid (wb = (w0.alloc (.cells #[.int .i64 k,.int .i64 c,.int .i64 id,.string tx,.slice ua0 un0 uc0,.int .i64 ui1,.int .i64 ui2,.slice ua3 un3 uc3,.slice ua4 un4 uc4,.slice fA fn fc,.slice rA rn rc] 53)).alloc (.cells #[.bool pb,.bool pn,.int .i64 pt] 126)):=qH (by rw [hwb,hwa])
 have HX:=qH hx
 have HP:=qH hp
 have HS:=qH hV
 obtain ⟨fE,hfE⟩:=gX (formT k c id tx fn rn)
 rw [<- hfE] at HS
 have CF:=qH (form189 k c id tx (.slice ua0 un0 uc0) (.int .i64 ui1) (.int .i64 ui2) (.slice ua3 un3 uc3) (.slice ua4 un4 uc4) fA rA fn fc rn rc wb hts)
 rw [<- hfE] at CF
 clear hV hfE hH hF hRw hfn hrn hzf hzr hx hp hwa hwb ba bb za HBN0 w
 obtain ⟨w,hw⟩:=gX (wb)
 rw [<- hw] at HKx HKp HK0 HC0 HH HFV HRV HW CF
 clear hw wb
 go_enter Tryz.func113,Tryz.ntmps113
 go_upto_region 1 with fail
 rw [<- HP.out,<- HX.out,<- HW.out]
 clear HW HX HP
 have HCc:=qH (Ch.refl K.c K.m4 w)
 have kx:=HCc.out.blk HKx.out nx.out.1 nx.out.2
 have z0:=aa kx 0
 have z1:=aa kx 1
 have z2:=aa kx 2
 have z3:=aa kx 3
 have z4:=aa kx 4
 have z5:=aa kx 5
 have z6:=aa kx 6
 have z7:=aa kx 7
 have z8:=aa kx 8
 have z9:=aa kx 9
 have z10:=aa kx 10
 clear kx
 go_wp2_with fail
 refine CF.out.mono ?_
 rintro e1 w1 ⟨rfl,hb1⟩
 have HK1:=qH (HK0.out.over hb1)
 have HC1:Hid (Ch K.c K.m4 w w1):=qH (Ch.of_below hb1)
 clear hb1 CF HCc z0 z1 z2 z3 z4 z5 z6 z7 z8 z9 z10
 by_cases hf:fE = 0
 case neg =>
  have f1:(fE == 0) = false:=by rw [beq_eq_false_iff_ne]; exact hf
  have HF:=qH (show CkP K w V (.returned (.int .i64 fE)) w1 from by rw [HS.out,if_pos hf]; exact ⟨rfl,HC1.out,HK1.out⟩)
  clear HS hf
  go_wp2_with fail
  go_ret
  exact CkP.of HF.out HC0.out
 subst hf
 obtain ⟨Gf,hGf⟩:∃ Gf:Sta→Int × Sta,Gf = fun s => bC (hedT k K.st K.ls K.rv hd,s) fun s => if k = 6 then I fl (false,true,pt) s else if k = 7 then rowsS K I rl (false,pn,wrI (pt + 1)) s else (0,s):=⟨_,rfl⟩
 have HGf:=qH (fun s => congrFun hGf s)
 have HR:=qH (show bC (preS k id (pb,pn,pt) (s.1,untS k tx s.2)) Gf = V by rw [HS.out,if_neg (by decide),hGf])
 obtain ⟨v1,hv1⟩:=gX (wrI (s.2 + 1))
 obtain ⟨cm,hcm⟩:=gX (wrI ((countN tx).1 - 1))
 obtain ⟨v2,hv2⟩:=gX (wrI (v1 + cm))
 obtain ⟨u0,hu0⟩:=gX (s.2)
 rw [hcm] at hv2
 have HU1:=qH hv1
 have HU2:=qH hv2
 have ea1:IntKind.i64.wrap (u0 + 1) = v1:=by rw [hu0,hv1]; rfl
 have ea2:wrap64 (u0 + 1) = v1:=by rw [hu0,hv1]; exact wrap64_wrI _
 have eb1:IntKind.i64.wrap ((countN tx).1 - 1) = cm:=by rw [hcm]; rfl
 have eb2:wrap64 ((countN tx).1 - 1) = cm:=by rw [hcm]; exact wrap64_wrI _
 have ec1:IntKind.i64.wrap (v1 + cm) = v2:=by rw [hv2,<- hcm]; rfl
 have ec2:wrap64 (v1 + cm) = v2:=by rw [hv2,<- hcm]; exact wrap64_wrI _
 have hb0:=HK1.out.blk
 rw [<- hu0] at hb0
 clear HS hGf hv1 hcm hv2 hu0
 go_upto_region 4 with fail
 refine ac (by rfl) ?_
 simp only [List.map]
 refine sq1p (K.c) 0 ?_
 refine sq1p (K.c) 0 ?_
 refine sq1p (K.c) 5 ?_
 refine sq1i u0 ?_ (by have q0:=aa hb0 5; go_simp)
 refine sq1i v1 ?_
 refine sq1p (K.c) 0 ?_
 refine sq1p (K.c) 5 ?_
 refine aj 3 _ _ rfl rfl K.c 5 130 _ #[.map (some K.m1),.map (some K.m2),.map (some K.m3),.map (some K.m4),.map (some K.m5),.int .i64 v1] [.int .i64 v1] rfl rfl hb0 sz3 (one1 rfl) rfl (by simp) ?_
 intro w3 hst hgr
 refine ⟨trivial,?_⟩
 refine ad ?_
 have HKc:=qH (CkAt.units HK1.out hst hgr)
 have HCc:=qH (HC1.out.trans (Ch.of_c hgr))
 clear hst hgr HK1 HC1 hb0
 have kx:=HCc.out.blk HKx.out nx.out.1 nx.out.2
 have z0:=aa kx 0
 clear kx
 go_upto_block 0 with fail
 clear z0
 go_cut [8,9,10,11,12] from 28 to 84 (fun _ _ _ _ _ wr => Hid (∃ s4,CkAt K s4 wr∧Gf s4 = V)∧Hid (Ch K.c K.m4 w wr))
 case first =>
  by_cases k1:k = 1
  ·subst k1
   have HU1:Hid (untS 1 tx s.2 = v2):=qH (by rw [HU2.out,HU1.out]; rfl)
   rw [show preS 1 id (pb,pn,pt) (s.1,untS 1 tx s.2) = (0,(s.1,v2)) from by rw [HU1.out]; rfl] at HR
   have CC:=qH (fun W => count190 tx W hts)
   have kx:=HCc.out.blk HKx.out nx.out.1 nx.out.2
   have z3:=aa kx 3
   clear kx
   go_wp2_with fail
   refine (CC.out _).mono ?_
   rintro e1 w4 ⟨rfl,hb4⟩
   have HK4:=qH (HKc.out.over hb4)
   have HC4:=qH (HCc.out.trans (Ch.of_below hb4))
   clear z3 CC hb4
   go_upto_region 8 with fail
   refine ac (by rfl) ?_
   simp only [List.map]
   refine sq1p (K.c) 0 ?_
   refine sq1p (K.c) 0 ?_
   refine sq1p (K.c) 5 ?_
   refine sq1i v1 ?_ (by have q0:=aa HK4.out.blk 5; go_simp)
   refine sq1 (.int .i64 (countN tx).1) ?_
   refine sq1i cm ?_
   refine sq1i v2 ?_
   refine sq1p (K.c) 0 ?_
   refine sq1p (K.c) 5 ?_
   refine aj 3 _ _ rfl rfl K.c 5 130 _ #[.map (some K.m1),.map (some K.m2),.map (some K.m3),.map (some K.m4),.map (some K.m5),.int .i64 v2] [.int .i64 v2] rfl rfl HK4.out.blk sz3 (one1 rfl) rfl (by simp) ?_
   intro w5 hst hgr
   refine ⟨trivial,?_⟩
   refine ad ?_
   have HKn:=qH (CkAt.units HK4.out hst hgr)
   have HCn:=qH (HC4.out.trans (Ch.of_c hgr))
   have HRn:=qH (show Gf (s.1,v2) = V from by rw [<- HR.out,bB (r:=((0:Int),(s.1,v2))) rfl])
   clear hst hgr HR HK4 HC4
   go_wp2_with fail
   go_meet
   exact ⟨qH ⟨_,HKn.out,HRn.out⟩,HCn⟩
  have f1:(k == 1) = false:=by rw [beq_eq_false_iff_ne]; exact k1
  by_cases k3:k = 3
  ·subst k3
   have HU3:Hid (untS 3 tx s.2 = v1):=qH (by rw [HU1.out]; rfl)
   have kp:=HCc.out.blk HKp.out np.out.1 np.out.2
   have p0:=aa kp 0
   clear kp
   cases pb
   case false =>
    rw [show preS 3 id (false,pn,pt) (s.1,untS 3 tx s.2) = (19,(s.1,v1)) from by rw [HU3.out]; rfl] at HR
    have HF:=qH (show CkP K w V (.returned (.int .i64 19)) w3 from by rw [<- HR.out]; rw [bA (r:=((19:Int),(s.1,v1))) (show (19:Int)≠0 by decide)]; exact ⟨rfl,HCc.out,HKc.out⟩)
    clear HR
    go_wp2_with fail
    go_ret
    exact CkP.of HF.out HC0.out
   rw [show preS 3 id (true,pn,pt) (s.1,untS 3 tx s.2) = (0,(s.1,v1)) from by rw [HU3.out]; rfl] at HR
   have HRn:=qH (show Gf (s.1,v1) = V from by rw [<- HR.out,bB (r:=((0:Int),(s.1,v1))) rfl])
   have HKn:=HKc
   have HCn:=HCc
   clear HR
   go_wp2_with fail
   go_meet
   exact ⟨qH ⟨_,HKn.out,HRn.out⟩,HCn⟩
  have f3:(k == 3) = false:=by rw [beq_eq_false_iff_ne]; exact k3
  by_cases k6:k = 6
  ·subst k6
   have HU6:Hid (untS 6 tx s.2 = v1):=qH (by rw [HU1.out]; rfl)
   obtain ⟨E,hE⟩:=gX (orE pn 19)
   have C51:Hid (∀ W,Calls Tryz.prog 51 #[.bool pn,.int .i64 19] W fun e w' => e = .returned (.int .i64 E)∧W = w'):=qH (fun W => by rw [hE]; exact bo pn 19 W)
   have HE:=qH hE
   clear hE
   have kp:=HCc.out.blk HKp.out np.out.1 np.out.2
   have HB:=qH (Below.refl w3.heap.size w3)
   go_upto_region 13 with fail
   refine ac (by rfl) ?_
   simp only [List.map]
   refine sq1p p 1 ?_
   refine sq1b pn ?_ (by have q0:=aa kp 1; go_simp)
   refine af 51 #[.bool pn,.int .i64 19] (by go_simp) ?_
   refine Calls.mono (C51.out _) ?_
   rintro e wp1 ⟨rfl,rfl⟩
   refine ⟨_,rfl,trivial,?_⟩
   simp only [Act.put,PutA,PutZ,PutS]
   refine au (.slice (some ⟨w3.heap.size,0,none⟩) 1 1) (w3.alloc (.cells #[.int .i64 E] 23)) (by go_simp) trivial ?_
   have hnp2:(w3.alloc (.cells #[.int .i64 E] 23)).heap[w3.heap.size]? = some (.cells #[.int .i64 E] 23 (0,0)):=heap_alloc_new _ _
   have hbp2:=ag w3 (.cells #[.int .i64 E] 23)
   obtain ⟨wp2,hwp2⟩:=gX (w3.alloc (.cells #[.int .i64 E] 23))
   obtain ⟨gp2,hgp2⟩:=gX (w3.heap.size)
   rw [<- hwp2] at hnp2 hbp2 ⊢
   rw [<- hgp2] at hnp2 ⊢
   replace kp:=ai kp hbp2
   replace HB:=qH (HB.out.trans (hbp2.mono HB.out.size))
   clear hwp2 hgp2 hbp2
   simp only [Act.put,PutA,PutZ,PutS]
   refine af 46 #[.slice (some ⟨gp2,0,none⟩) 1 1] (by go_simp) ?_
   refine Calls.mono (bu [E] hnp2 rfl (by simp)) ?_
   rintro e wp3 ⟨rfl,rfl⟩
   refine ⟨_,rfl,trivial,?_⟩
   simp only [Act.put,PutA,PutZ,PutS]
   refine sq1i (aS [E]) ?_
   refine ad ?_
   obtain ⟨wy,hwy⟩:=gX (wp2)
   rw [<- hwy] at HB kp ⊢
   have HKc':=qH (HKc.out.over HB.out)
   have HCc':=qH (HCc.out.trans (Ch.of_below HB.out))
   clear HKc HCc kp hwy HB
   have HKc:=HKc'
   have HCc:=HCc'
   clear HKc' HCc'
   cases pn
   case true =>
    have hE:E = 19:=HE.out
    subst hE
    rw [show preS 6 id (pb,true,pt) (s.1,untS 6 tx s.2) = (19,(s.1,v1)) from by rw [HU6.out]; rfl] at HR
    have e9:aS [19] = 19:=rfl
    rw [e9]
    have HF:=qH (show CkP K w V (.returned (.int .i64 19)) wy from by rw [<- HR.out]; rw [bA (r:=((19:Int),(s.1,v1))) (show (19:Int)≠0 by decide)]; exact ⟨rfl,HCc.out,HKc.out⟩)
    clear HR
    go_wp2_with fail
    go_ret
    exact CkP.of HF.out HC0.out
   have hE:E = 0:=HE.out
   subst hE
   have e9:aS [0] = 0:=rfl
   rw [e9]
   rw [show preS 6 id (pb,false,pt) (s.1,untS 6 tx s.2) = idS id (s.1,v1) from by rw [HU6.out]; rfl] at HR
   have C1:=qH (id191 K id (s.1,v1) _ HKc.out)
   have kx:=HCc.out.blk HKx.out nx.out.1 nx.out.2
   have z2:=aa kx 2
   clear kx
   go_wp2_with fail
   refine C1.out.mono ?_
   rintro e1 w4 hP
   obtain ⟨rfl,hch,hck⟩:=hP
   clear z2 C1
   obtain ⟨r1,hr1⟩:=gX (idS id (s.1,v1))
   rw [<- hr1] at HR hck ⊢
   have HC4:=qH (HCc.out.trans hch)
   have HK4:=qH hck
   clear hr1 hch hck
   obtain ⟨e1,s3⟩:=r1
   simp only at HK4 ⊢
   by_cases he1:e1 = 0
   case neg =>
    have f1:(e1 == 0) = false:=by rw [beq_eq_false_iff_ne]; exact he1
    have HF:=qH (show CkP K w V (.returned (.int .i64 e1)) w4 from by rw [<- HR.out]; rw [bA he1]; exact ⟨rfl,HC4.out,HK4.out⟩)
    clear HR
    go_wp2_with fail
    go_ret
    exact CkP.of HF.out HC0.out
   subst he1
   have HRn:=qH (show Gf s3 = V from by rw [<- HR.out,bB (r:=((0:Int),s3)) rfl])
   have HKn:=HK4
   have HCn:=HC4
   clear HR
   go_wp2_with fail
   go_meet
   exact ⟨qH ⟨_,HKn.out,HRn.out⟩,HCn⟩
  have f6:(k == 6) = false:=by rw [beq_eq_false_iff_ne]; exact k6
  by_cases k7:k = 7
  ·subst k7
   have HU7:Hid (untS 7 tx s.2 = v1):=qH (by rw [HU1.out]; rfl)
   have kp:=HCc.out.blk HKp.out np.out.1 np.out.2
   have p2:=aa kp 2
   clear kp
   by_cases h4:4≤pt
   case pos =>
    have f4:decide (4≤pt) = true:=by simpa using h4
    have f5:decide (pt < 4) = false:=by simpa using h4
    rw [show preS 7 id (pb,pn,pt) (s.1,untS 7 tx s.2) = (17,(s.1,v1)) from by rw [HU7.out]; unfold preS; rw [if_neg (by decide),if_neg (by decide),if_pos rfl,if_pos h4]] at HR
    have HF:=qH (show CkP K w V (.returned (.int .i64 17)) w3 from by rw [<- HR.out]; rw [bA (r:=((17:Int),(s.1,v1))) (show (17:Int)≠0 by decide)]; exact ⟨rfl,HCc.out,HKc.out⟩)
    clear HR
    go_wp2_with fail
    go_ret
    exact CkP.of HF.out HC0.out
   have f4:decide (4≤pt) = false:=by simpa using h4
   have f5:decide (pt < 4) = true:=by simpa using h4
   rw [show preS 7 id (pb,pn,pt) (s.1,untS 7 tx s.2) = idS id (s.1,v1) from by rw [HU7.out]; unfold preS; rw [if_neg (by decide),if_neg (by decide),if_pos rfl,if_neg h4]] at HR
   have C1:=qH (id191 K id (s.1,v1) _ HKc.out)
   have kx:=HCc.out.blk HKx.out nx.out.1 nx.out.2
   have z2:=aa kx 2
   clear kx
   go_wp2_with fail
   refine C1.out.mono ?_
   rintro e1 w4 hP
   obtain ⟨rfl,hch,hck⟩:=hP
   clear z2 C1
   obtain ⟨r1,hr1⟩:=gX (idS id (s.1,v1))
   rw [<- hr1] at HR hck ⊢
   have HC4:=qH (HCc.out.trans hch)
   have HK4:=qH hck
   clear hr1 hch hck
   obtain ⟨e1,s3⟩:=r1
   simp only at HK4 ⊢
   by_cases he1:e1 = 0
   case neg =>
    have f1:(e1 == 0) = false:=by rw [beq_eq_false_iff_ne]; exact he1
    have HF:=qH (show CkP K w V (.returned (.int .i64 e1)) w4 from by rw [<- HR.out]; rw [bA he1]; exact ⟨rfl,HC4.out,HK4.out⟩)
    clear HR
    go_wp2_with fail
    go_ret
    exact CkP.of HF.out HC0.out
   subst he1
   have HRn:=qH (show Gf s3 = V from by rw [<- HR.out,bB (r:=((0:Int),s3)) rfl])
   have HKn:=HK4
   have HCn:=HC4
   clear HR
   go_wp2_with fail
   go_meet
   exact ⟨qH ⟨_,HKn.out,HRn.out⟩,HCn⟩
  have f7:(k == 7) = false:=by rw [beq_eq_false_iff_ne]; exact k7
  by_cases k8:k = 8
  ·subst k8
   have HU8:Hid (untS 8 tx s.2 = v1):=qH (by rw [HU1.out]; rfl)
   obtain ⟨ib,hib⟩:=gX (inB id 1 1073741824)
   have C7:Hid (∀ W,Calls Tryz.prog 107 #[.int .i64 id,.int .i64 1,.int .i64 1073741824] W fun e w' => e = .returned (.bool ib)∧W = w'):=qH (fun W => by rw [hib]; exact in107 id 1 1073741824 W)
   rw [show preS 8 id (pb,pn,pt) (s.1,untS 8 tx s.2) = (if ib = true then (0,(s.1,v1)) else (18,(s.1,v1))) from by rw [HU8.out,hib]; rfl] at HR
   clear hib
   have kx:=HCc.out.blk HKx.out nx.out.1 nx.out.2
   have z2:=aa kx 2
   clear kx
   go_wp2_with fail
   refine (C7.out _).mono ?_
   rintro e w9 ⟨rfl,rfl⟩
   clear z2 C7
   cases ib
   case false =>
    have HF:=qH (show CkP K w V (.returned (.int .i64 18)) w3 from by rw [<- HR.out]; rw [if_neg (by decide),bA (r:=((18:Int),(s.1,v1))) (show (18:Int)≠0 by decide)]; exact ⟨rfl,HCc.out,HKc.out⟩)
    clear HR
    go_wp2_with fail
    go_ret
    exact CkP.of HF.out HC0.out
   have HRn:=qH (show Gf (s.1,v1) = V from by rw [<- HR.out,if_pos rfl,bB (r:=((0:Int),(s.1,v1))) rfl])
   have HKn:=HKc
   have HCn:=HCc
   clear HR
   go_wp2_with fail
   go_meet
   exact ⟨qH ⟨_,HKn.out,HRn.out⟩,HCn⟩
  have f8:(k == 8) = false:=by rw [beq_eq_false_iff_ne]; exact k8
  have HUx:Hid (untS k tx s.2 = v1):=qH (by rw [HU1.out]; unfold untS; rw [if_neg k1])
  rw [show preS k id (pb,pn,pt) (s.1,untS k tx s.2) = (0,(s.1,v1)) from by rw [HUx.out]; unfold preS; rw [if_neg k3,if_neg k6,if_neg k7,if_neg k8]] at HR
  have HRn:=qH (show Gf (s.1,v1) = V from by rw [<- HR.out,bB (r:=((0:Int),(s.1,v1))) rfl])
  have HKn:=HKc
  have HCn:=HCc
  clear HR
  go_wp2_with fail
  go_meet
  exact ⟨qH ⟨_,HKn.out,HRn.out⟩,HCn⟩
 clear HKc HCc HR
 obtain ⟨HT,HCc⟩:=hcut
 obtain ⟨s4,hK,hR4⟩:=HT.out
 have HK4:=qH hK
 have HR:=qH hR4
 clear HT hK hR4
 obtain ⟨E,hE⟩:=gX (hedT k K.st K.ls K.rv hd)
 replace HR:=qH (show bC (E,s4) (fun s => if k = 6 then I fl (false,true,pt) s else if k = 7 then rowsS K I rl (false,pn,wrI (pt + 1)) s else (0,s)) = V by rw [<- HR.out,HGf.out,hE])
 have HBN4:Hid (Below K.N w wc):=qH (HCc.out.below HK4.out.nc HK4.out.nm HK0.out.le)
 have C2:Hid (Calls Tryz.prog 50 #[.pointer (some ⟨K.c,0,none⟩),.int .i64 k,.agg #[.slice ua0 un0 uc0,.int .i64 ui1,.int .i64 ui2,.slice ua3 un3 uc3,.slice ua4 un4 uc4]] wc (RetI E wc)):=qH (by
  rw [hE]
  exact headK HK4.out k (Rp.below ay HH.out HG.out HBN4.out) (fun b h => Nat.lt_of_lt_of_le (HG.out b h) HK4.out.le))
 clear hE
 have kx:=HCc.out.blk HKx.out nx.out.1 nx.out.2
 have z0:=aa kx 0
 have z4:=aa kx 4
 have z5:=aa kx 5
 have z6:=aa kx 6
 have z7:=aa kx 7
 have z8:=aa kx 8
 clear kx
 go_wp2_with fail
 refine C2.out.mono ?_
 rintro e2 w5 ⟨rfl,hb5⟩
 have HC5:=qH (HCc.out.trans (Ch.of_below hb5))
 have HK5:=qH (HK4.out.over hb5)
 clear hb5 z0 z4 z5 z6 z7 z8 C2 HCc HK4 HBN4
 by_cases he2:E = 0
 case neg =>
  have f2:(E == 0) = false:=by rw [beq_eq_false_iff_ne]; exact he2
  have HF:=qH (show CkP K w V (.returned (.int .i64 E)) w5 from by rw [<- HR.out,bA he2]; exact ⟨rfl,HC5.out,HK5.out⟩)
  clear HR he2
  go_wp2_with fail
  go_ret
  exact CkP.of HF.out HC0.out
 subst he2
 obtain ⟨s5,hs5⟩:=gX (s4)
 rw [<- hs5] at HK5
 replace HR:=qH (show (if k = 6 then I fl (false,true,pt) s5 else if k = 7 then rowsS K I rl (false,pn,wrI (pt + 1)) s5 else (0,s5)) = V by rw [<- HR.out,hs5,bB (r:=((0:Int),s4)) rfl])
 clear hs5
 obtain ⟨pt1,hpt1⟩:=gX (wrI (pt + 1))
 have HBN5:Hid (Below K.N w w5):=qH (HC5.out.below HK5.out.nc HK5.out.nm HK0.out.le)
 by_cases t6:k = 6
 ·subst t6
  have C6:=qH (HI.out G HG.out _ _ (false,true,pt) s5 w5 HK5.out (HFV.out.below hRs HG.out HBN5.out) HZF.out)
  have HR6:=qH (show I fl (false,true,pt) s5 = V from HR.out)
  unfold plcV at C6
  simp only at C6
  have kx:=HC5.out.blk HKx.out nx.out.1 nx.out.2
  have z0:=aa kx 0
  have z9:=aa kx 9
  clear kx
  have kp:=HC5.out.blk HKp.out np.out.1 np.out.2
  have p2:=aa kp 2
  clear kp
  go_wp2_with fail
  refine C6.out.mono ?_
  rintro e6 w6 hP
  rw [HR6.out] at hP
  have HF:=qH (CkP.of hP HC5.out)
  obtain ⟨rfl,_,_⟩:=hP
  clear C6 HR6 z0 z9 p2 HR
  go_wp2_with fail
  go_ret
  exact CkP.of HF.out HC0.out
 have f6:(k == 6) = false:=by rw [beq_eq_false_iff_ne]; exact t6
 by_cases t7:k = 7
 ·subst t7
  have C7:=qH (rows192 R hRs ee K I HI.out G HG.out _ _ (false,pn,pt1) s5 w5 HK5.out (HRV.out.below (bs hRs) HG.out HBN5.out) HZR.out)
  have HR7:=qH (show rowsS K I rl (false,pn,pt1) s5 = V from by rw [<- HR.out,hpt1]; rfl)
  unfold plcV at C7
  simp only at C7
  have kx:=HC5.out.blk HKx.out nx.out.1 nx.out.2
  have z0:=aa kx 0
  have z10:=aa kx 10
  clear kx
  have kp:=HC5.out.blk HKp.out np.out.1 np.out.2
  have p1:=aa kp 1
  have p2:=aa kp 2
  clear kp
  have ept1:IntKind.i64.wrap (pt + 1) = pt1:=hpt1.symm
  have ept2:wrap64 (pt + 1) = pt1:=by rw [hpt1]; exact wrap64_wrI _
  clear hpt1
  go_wp2_with fail
  refine C7.out.mono ?_
  rintro e6 w6 hP
  rw [HR7.out] at hP
  have HF:=qH (CkP.of hP HC5.out)
  obtain ⟨rfl,_,_⟩:=hP
  clear C7 HR7 z0 z10 p1 p2 HR
  go_wp2_with fail
  go_ret
  exact CkP.of HF.out HC0.out
 have f7:(k == 7) = false:=by rw [beq_eq_false_iff_ne]; exact t7
 have HF:=qH (show CkP K w V (.returned (.int .i64 0)) w5 from by rw [<- HR.out,if_neg t6,if_neg t7]; exact ⟨rfl,HC5.out,HK5.out⟩)
 have kx:=HC5.out.blk HKx.out nx.out.1 nx.out.2
 have z0:=aa kx 0
 clear kx
 clear HR
 go_wp2_with fail
 go_ret
 exact CkP.of HF.out HC0.out
theorem clo112 {α:Type} (R:Rp α) (hRs:Stb R) (ee:α→List Nat) (K:CK) (I:List α→Plc→Sta→Int × Sta) (hItm:ItmK R ee K I) (G:Nat→Prop) (hG:∀ b,G b→b < K.N) (A:Option Addr) (n cp:Nat) (l:List (ItS α)) (x:ItS α) (i:Nat) (p:Plc) (s:Sta) (w:World) (hK:CkAt K s w) (hv:Slv (isP R) 11 w G (.slice A n cp) l) (hx:l[i]? = some x) (hz:(isE ee x).length≤1048576000) (g1 g2 g3:Nat) (k1:w.heap[g1]? = some (.cells #[.pointer (some ⟨K.c,0,none⟩)] 120 (0,0))) (k2:w.heap[g2]? = some (.cells #[.slice A n cp] 33 (0,0))) (k3:w.heap[g3]? = some (.cells #[.bool p.1,.bool p.2.1,.int .i64 p.2.2] 126 (0,0))) (n1:g1≠K.c∧g1≠K.m4) (n2:g2≠K.c∧g2≠K.m4) (n3:g3≠K.c∧g3≠K.m4) :
  Calls Tryz.prog 112 #[.int .i64 (i:Int),.pointer (some ⟨g1,0,none⟩),.pointer (some ⟨g2,0,none⟩),.pointer (some ⟨g3,0,none⟩)] w (CkP K w (itmS K I x p s)):=by
 obtain ⟨pb,pn,pt⟩:=p
 obtain ⟨r,hr⟩:=gX (itmS K I x (pb,pn,pt) s)
 rw [<- hr]
 obtain ⟨b1,o1,vs,rfl,hgb,hbw,_,hRx,hcs⟩:=hv.at i x hx
 have hE:EltS b1 (o1 + i * 11) vs w:=hcs
 obtain ⟨h0,h1,h2,h3,h4,fv,rv,rfl,hi4,hH,hF,hRw⟩:=hRx
 obtain ⟨ua0,un0,uc0,ui1,ui2,ua3,un3,uc3,ua4,un4,uc4,rfl,rfl,rfl,rfl,rfl⟩:=hd_shape hH
 obtain ⟨fA,fc,rfl,_,_⟩:=hF.shape
 obtain ⟨rA,rc,rfl,_,_⟩:=hRw.shape
 obtain ⟨k,c,id,tx,hd,fl,rl⟩:=x
 simp only at hH hF hRw hi4 hE
 obtain ⟨fn,hfn⟩:=gX (fl.length)
 obtain ⟨rn,hrn⟩:=gX (rl.length)
 rw [<- hfn] at hF hE
 rw [<- hrn] at hRw hE
 have hin:(i:Int) < (n:Int):=by
  obtain ⟨_,_,e1,_⟩:=hv.shape
  cases e1
  have:=(List.getElem?_eq_some_iff.1 hx).1
  omega
 obtain ⟨hlen,hcm⟩:n≤cp∧cp≤maxLen:=by obtain ⟨A',c',hv',q1,q2,_⟩:=hv; cases hv'; exact ⟨q1,q2⟩
 unfold maxLen at hcm
 have C:Hid (∀ W,Below w.heap.size w W→Calls Tryz.prog 113 #[.pointer (some ⟨K.c,0,none⟩),.agg #[.int .i64 k,.int .i64 c,.int .i64 id,.string tx,.slice ua0 un0 uc0,.int .i64 ui1,.int .i64 ui2,.slice ua3 un3 uc3,.slice ua4 un4 uc4,.slice fA fn fc,.slice rA rn rc],.agg #[.bool pb,.bool pn,.int .i64 pt]] W (CkP K W r)):=qH (fun W hW => by
  rw [hr]
  have hww:Below K.N w W:=hW.mono hK.le
  exact hItm G hG _ (k,c,id,tx,hd,fl,rl) (pb,pn,pt) s W (hK.over hW) ⟨_,_,_,_,_,_,_,rfl,hi4,Rp.below ay hH hG hww,hF.below hRs hG hww,hRw.below (bs hRs) hG hww⟩ hz)
 have n1:=qH n1
 have n2:=qH n2
 have n3:=qH n3
 have HG:=qH hG
 have HKd:Hid (CkAt K s w.drew):=qH (hK.over (Below.refl _ w).drew)
 have HK:=qH hK
 have HB:=qH (Below.refl w.heap.size w)
 clear hv hcs hx hr hi4 hH hF hRw hfn hrn hz hG hK hlen hItm
 go_enter Tryz.func112,Tryz.ntmps112
 go_upto_region 1 with fail
 replace k1:w.drew.heap[g1]? = some (.cells #[.pointer (some ⟨K.c,0,none⟩)] 120 (0,0)):=k1
 replace k2:w.drew.heap[g2]? = some (.cells #[.slice (some ⟨b1,o1,none⟩) n cp] 33 (0,0)):=k2
 replace k3:w.drew.heap[g3]? = some (.cells #[.bool pb,.bool pn,.int .i64 pt] 126 (0,0)):=k3
 replace hE:EltS b1 (o1 + i * 11) [.int .i64 k,.int .i64 c,.int .i64 id,.string tx,.slice ua0 un0 uc0,.int .i64 ui1,.int .i64 ui2,.slice ua3 un3 uc3,.slice ua4 un4 uc4,.slice fA fn fc,.slice rA rn rc] w.drew:=hE
 replace HB:=qH HB.out.drew
 refine ao (S:=fun w' => w'.heap[g1]? = some (.cells #[.pointer (some ⟨K.c,0,none⟩)] 120 (0,0))∧w'.heap[g2]? = some (.cells #[.slice (some ⟨b1,o1,none⟩) n cp] 33 (0,0))∧w'.heap[g3]? = some (.cells #[.bool pb,.bool pn,.int .i64 pt] 126 (0,0))∧EltS b1 (o1 + i * 11) [.int .i64 k,.int .i64 c,.int .i64 id,.string tx,.slice ua0 un0 uc0,.int .i64 ui1,.int .i64 ui2,.slice ua3 un3 uc3,.slice ua4 un4 uc4,.slice fA fn fc,.slice rA rn rc] w') [(true,0),(true,1),(true,2),(true,3),(true,4),(true,5),(false,6),(true,7)] (by kernel_rfl) (by kernel_rfl) ⟨k1,k2,k3,hE⟩ ?_
 simp only [aO,List.getElem?_cons_succ,List.getElem?_cons_zero]
 refine sq2p (K.c) 0 ?_ (fun w' hS => by have q0:=aa hS.1 0; go_simp)
 refine sq2 (.slice (some ⟨b1,o1,none⟩) n cp) ?_ (fun w' hS => by have q0:=aa hS.2.1 0; go_simp)
 refine sq2i (i:Int) ?_
 refine sq2p b1 (o1 + i * 11) ?_
 refine sq2 (.agg #[.int .i64 k,.int .i64 c,.int .i64 id,.string tx,.slice ua0 un0 uc0,.int .i64 ui1,.int .i64 ui2,.slice ua3 un3 uc3,.slice ua4 un4 uc4,.slice fA fn fc,.slice rA rn rc]) ?_ (fun w' hS => by have q0:=hS.2.2.2 0 _ rfl; have q1:=hS.2.2.2 1 _ rfl; have q2:=hS.2.2.2 2 _ rfl; have q3:=hS.2.2.2 3 _ rfl; have q4:=hS.2.2.2 4 _ rfl; have q5:=hS.2.2.2 5 _ rfl; have q6:=hS.2.2.2 6 _ rfl; have q7:=hS.2.2.2 7 _ rfl; have q8:=hS.2.2.2 8 _ rfl; have q9:=hS.2.2.2 9 _ rfl; have q10:=hS.2.2.2 10 _ rfl; simp only [Nat.add_zero] at q0; go_simp)
 refine sq2 (.agg #[.bool pb,.bool pn,.int .i64 pt]) ?_ (fun w' hS => by have q0:=aa hS.2.2.1 0; have q1:=aa hS.2.2.1 1; have q2:=aa hS.2.2.1 2; go_simp)
 refine af 113 #[.pointer (some ⟨K.c,0,none⟩),.agg #[.int .i64 k,.int .i64 c,.int .i64 id,.string tx,.slice ua0 un0 uc0,.int .i64 ui1,.int .i64 ui2,.slice ua3 un3 uc3,.slice ua4 un4 uc4,.slice fA fn fc,.slice rA rn rc],.agg #[.bool pb,.bool pn,.int .i64 pt]] (by go_simp) ?_
 refine Calls.mono (C.out _ HB.out) ?_
 rintro e wp1 ⟨rfl,hchp1,hckp1⟩
 replace k1:wp1.heap[g1]? = some (.cells #[.pointer (some ⟨K.c,0,none⟩)] 120 (0,0)):=hchp1.blk k1 n1.out.1 n1.out.2
 replace k2:wp1.heap[g2]? = some (.cells #[.slice (some ⟨b1,o1,none⟩) n cp] 33 (0,0)):=hchp1.blk k2 n2.out.1 n2.out.2
 replace k3:wp1.heap[g3]? = some (.cells #[.bool pb,.bool pn,.int .i64 pt] 126 (0,0)):=hchp1.blk k3 n3.out.1 n3.out.2
 replace hE:EltS b1 (o1 + i * 11) [.int .i64 k,.int .i64 c,.int .i64 id,.string tx,.slice ua0 un0 uc0,.int .i64 ui1,.int .i64 ui2,.slice ua3 un3 uc3,.slice ua4 un4 uc4,.slice fA fn fc,.slice rA rn rc] wp1:=EltS.below hE (HG.out b1 hgb) (hchp1.below HKd.out.nc HKd.out.nm HKd.out.le)
 refine ⟨_,rfl,⟨k1,k2,k3,hE⟩,?_⟩
 simp only [Act.put,PutA,PutZ,PutS]
 refine sq2i (r.1) ?_
 refine ad ?_
 have HF:Hid (CkP K w r (.returned (.int .i64 r.1)) wp1):=qH ⟨rfl,(Ch.of_below HB.out).trans hchp1,hckp1⟩
 clear hE k1 k2 k3 hchp1 hckp1
 go_wp2_with fail
 go_ret
 exact HF.out
theorem items52_at {α:Type} (R:Rp α) (hRs:Stb R) (ee:α→List Nat) (K:CK) (I:List α→Plc→Sta→Int × Sta) (G:Nat→Prop) (hG:∀ b,G b→b < K.N) (v:Value) (l:List (ItS α)) (hItm:0 < l.length→ItmK R ee K I) (p:Plc) (s:Sta) (w:World) (hK:CkAt K s w) (hv:Slv (isP R) 11 w G v l) (hz:(ak (isE ee) l).length≤1048576000) :
  Calls Tryz.prog 52 #[.pointer (some ⟨K.c,0,none⟩),v,plcV p] w (CkP K w (foldS (fun x s => itmS K I x p s) l s)):=by
 obtain ⟨pb,pn,pt⟩:=p
 unfold plcV
 simp only
 obtain ⟨V,hV⟩:=gX (foldS (fun x s => itmS K I x (pb,pn,pt) s) l s)
 rw [<- hV]
 obtain ⟨A,cp,rfl,hlc,hcm⟩:=hv.shape
 unfold maxLen at hcm
 obtain ⟨w0,hw0⟩:=gX (w)
 rw [<- hw0] at hK hv ⊢
 clear hw0 w
 obtain ⟨n,hn⟩:=gX (l.length)
 rw [<- hn] at hv hlc ⊢
 obtain ⟨g1,hg1⟩:=gX (w0.heap.size)
 obtain ⟨g2,hg2⟩:=gX (w0.heap.size + 1)
 obtain ⟨g3,hg3⟩:=gX (w0.heap.size + 1 + 1)
 obtain ⟨wa,hwa⟩:=gX (w0.alloc (.cells #[.pointer (some ⟨K.c,0,none⟩)] 120))
 obtain ⟨wb,hwb⟩:=gX (wa.alloc (.cells #[.slice A n cp] 33))
 obtain ⟨wc,hwc⟩:=gX (wb.alloc (.cells #[.bool pb,.bool pn,.int .i64 pt] 126))
 have ba:Below w0.heap.size w0 wa:=by rw [hwa]; exact ag _ _
 have bb:Below wa.heap.size wa wb:=by rw [hwb]; exact ag _ _
 have bc:Below wb.heap.size wb wc:=by rw [hwc]; exact ag _ _
 have za:wa.heap.size = g2:=by rw [hwa,bM,hg2]
 have zb:wb.heap.size = g3:=by rw [hwb,bM,za,hg3,hg2]
 have k1:wc.heap[g1]? = some (.cells #[.pointer (some ⟨K.c,0,none⟩)] 120 (0,0)):=ai (ai (by rw [hwa]; exact ah _ _ hg1) bb) bc
 have k2:wc.heap[g2]? = some (.cells #[.slice A n cp] 33 (0,0)):=ai (by rw [hwb]; exact ah _ _ za.symm) bc
 have k3:wc.heap[g3]? = some (.cells #[.bool pb,.bool pn,.int .i64 pt] 126 (0,0)):=by rw [hwc]; exact ah _ _ zb.symm
 have hKc:CkAt K s wc:=((hK.over ba).over bb).over bc
 have hC0:Ch K.c K.m4 w0 wc:=((Ch.of_below ba).trans (Ch.of_below bb)).trans (Ch.of_below bc)
 have hz0:=hK.size
 have n1:g1≠K.c∧g1≠K.m4:=by omega
 have n2:g2≠K.c∧g2≠K.m4:=by omega
 have n3:g3≠K.c∧g3≠K.m4:=by omega
 have hvc:Slv (isP R) 11 wc G (.slice A n cp) l:=hv.below (stb_is hRs) hG (hC0.below hK.nc hK.nm hK.le)
 have HA:Hid (Calls Tryz.prog 102 #[.int .i64 (n:Int),.func (.func 112) #[] #[.pointer (some ⟨g1,0,none⟩),.pointer (some ⟨g2,0,none⟩),.pointer (some ⟨g3,0,none⟩)]] wc (AllC V.1 (fun W => Ch K.c K.m4 w0 W∧CkAt K V.2 W))):=qH (by
  refine all102 112 _ (ent 112 _ _ Tryz.func112 (by kernel_rfl) rfl) n (by omega) V.1 (fun i W => ∃ s',CkAt K s' W∧foldS (fun x s => itmS K I x (pb,pn,pt) s) (l.drop i) s' = V∧Ch K.c K.m4 wc W) _ wc ⟨s,hKc,hV.symm,Ch.refl _ _ _⟩ ?_ ?_
  ·rintro i hi W ⟨s',hk',hf,hc'⟩
   obtain ⟨x,hx⟩:∃ x,l[i]? = some x:=⟨_,List.getElem?_eq_getElem (by rw [<- hn]; exact hi)⟩
   have hzx:(isE ee x).length≤1048576000:=Nat.le_trans (mem_le (e:=isE ee) (List.mem_of_getElem? hx)) hz
   rw [foldS_at hx] at hf
   refine (clo112 R hRs ee K I (hItm (by rw [<- hn]; omega)) G hG A n cp l x i (pb,pn,pt) s' W hk' (hvc.below (stb_is hRs) hG (hc'.below hKc.nc hKc.nm hKc.le)) hx hzx g1 g2 g3 (hc'.blk k1 n1.1 n1.2) (hc'.blk k2 n2.1 n2.2) (hc'.blk k3 n3.1 n3.2) n1 n2 n3).mono ?_
   rintro e w' ⟨rfl,hch,hck⟩
   refine ⟨_,rfl,?_⟩
   by_cases he:(itmS K I x (pb,pn,pt) s').1 = 0
   ·refine .inr ⟨he,_,hck,?_,hc'.trans hch⟩
    rw [<- hf,bB he]
   rw [bA he] at hf
   refine .inl ⟨he,by rw [<- hf],hC0.trans (hc'.trans hch),by rw [<- hf]; exact hck⟩
  rintro W ⟨s',hk',hf,hc'⟩
  rw [foldS_end (by omega)] at hf
  rw [<- hf]
  exact ⟨rfl,hC0.trans hc',hk'⟩)
 have HW:Hid (wc = ((w0.alloc (.cells #[.pointer (some ⟨K.c,0,none⟩)] 120)).alloc (.cells #[.slice A n cp] 33)).alloc (.cells #[.bool pb,.bool pn,.int .i64 pt] 126)):=qH (by rw [hwc,hwb,hwa])
 have c2:=aa k2 0
 have H1:=qH hg1
 have H2:=qH hg2
 have H3:=qH hg3
 clear hV hK hv hz hn hwa hwb hwc ba bb bc za zb k1 k2 k3 hKc hC0 hz0 n1 n2 n3 hvc hg1 hg2 hg3
 go_enter Tryz.func52,Tryz.ntmps52
 go_upto_region 1 with fail
 rw [<- H3.out,<- H2.out,<- H1.out,<- HW.out]
 clear HW H1 H2 H3
 go_wp2_with fail
 refine HA.out.mono ?_
 rintro e w9 ⟨rfl,hch,hck⟩
 have HF:Hid (CkP K w0 V (.returned (.int .i64 V.1)) w9):=qH ⟨rfl,hch,hck⟩
 clear hch hck c2 HA
 go_wp2_with fail
 go_ret
 exact HF.out
theorem items52 {α:Type} (R:Rp α) (hRs:Stb R) (ee:α→List Nat) (K:CK) (I:List α→Plc→Sta→Int × Sta) (hItm:ItmK R ee K I):ItsK (isP R) (isE ee) K (fun l p s => foldS (fun x s => itmS K I x p s) l s) :=
 fun G hG v l p s w hK hv hz => items52_at R hRs ee K I G hG v l (fun _ => hItm) p s w hK hv hz
theorem items0 (K:CK):ItsK (itP 0) (itE 0) K (itsS K 0):=by
 intro G hG v l p s w hK hv hz
 obtain rfl:l = []:=by
  cases l with
  | nil => rfl
  | cons x _ => exact Empty.elim x
 obtain ⟨A,c,rfl,h1,h2,_⟩:=hv
 have hv2:Slv (isP (itP 0)) 11 w G (.slice A ([]:List (It 0)).length c) ([]:List (ItS (It 0))):=⟨A,c,rfl,h1,h2,fun h => by simp at h⟩
 exact items52_at (itP 0) (aV 0) (itE 0) K (fun _ _ s => (0,s)) G hG _ [] (fun h => by simp at h) p s w hK hv2 (by simp [ak] at hz ⊢; exact hz)
theorem check_items (K:CK):∀ n,ItsK (itP n) (itE n) K (itsS K n)
 | 0 => items0 K
 | n + 1 => items52 (itP n) (aV n) (itE n) K (itsS K n) (item113 (itP n) (aV n) (itE n) K (itsS K n) (check_items K n))
end Go.Proofs.YtmhhcfceikcfbaaGreat
