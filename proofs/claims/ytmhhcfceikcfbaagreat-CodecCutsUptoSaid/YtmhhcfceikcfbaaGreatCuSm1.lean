/- Walks: the weights of arguments (only that they return). -/
import Derived.BigQuiet
import Derived.Test.YtmhhcfceikcfbaaGreatCuW8
namespace Go.Proofs.YtmhhcfceikcfbaaGreat
open Go.RowKit
set_option maxRecDepth 100000
set_option maxHeartbeats 4000000
def BoolC (w:World) (e:Ending) (w':World):Prop:=∃ b,e = .returned (.bool b)∧Below w.heap.size w w'
def TwoC (w:World) (e:Ending) (w':World):Prop:=∃ a b:Int,e = .returned (.tuple #[.int .i64 a,.int .i64 b])∧Below w.heap.size w w'
def WeiS {α:Type} (R:Rp α):Prop:=∀ (G:Nat→Prop) (w:World) (v:Value) (l:List α),Slv R 11 w G v l→(∀ b,G b→b < w.heap.size)→Calls Tryz.prog 45 #[v] w (TwoC w)
theorem hd_shp {w:World} {G:Nat→Prop} {h0 h1 h2 h3 h4:Value} {x:Hd} (h:hdP w G [h0,h1,h2,h3,h4] x):∃ A0 c0 A3 c3 A4 c4 n0 n3 n4 y1 y2,h0 = .slice A0 n0 c0∧h1 = .int .i64 y1∧h2 = .int .i64 y2∧h3 = .slice A3 n3 c3∧h4 = .slice A4 n4 c4:=by
 obtain ⟨pv,dv,lv,e,_,_,h1,h2,h3⟩:=h
 obtain ⟨A0,c0,rfl,_,_⟩:=h1.shape
 obtain ⟨A3,c3,rfl,_,_⟩:=h2.shape
 obtain ⟨A4,c4,rfl,_,_⟩:=h3.shape
 simp only [List.cons.injEq] at e
 obtain ⟨rfl,rfl,rfl,rfl,rfl,_⟩:=e
 exact ⟨A0,c0,A3,c3,A4,c4,_,_,_,_,_,rfl,rfl,rfl,rfl,rfl⟩
theorem weight_step {α:Type} (R:Rp α) (hR:Stb R) (HI:WeiS R):WeiS (isP R):=by
 intro G w v l hv hG
 obtain ⟨A,cp,hsl,hlc,hcm⟩:=hv.shape
 subst hsl
 obtain ⟨n,hn⟩:=gX (l.length)
 unfold maxLen at hcm
 have HV:=qH hv
 rw [<- hn]
 have HN:=qH hn
 have HG:=qH hG
 have hnn:n≤9223372036854775807:=by omega
 clear hv hlc hn hG
 go_enter Tryz.func45,Tryz.ntmps45
 go_wp2_with fail
 go_loopw [2,3,4] (fun mv dv iv wr => ∃ (m d:Int) (i:Nat),mv = .int .i64 m∧dv = .int .i64 d∧iv = .int .i64 (i:Int)∧i≤n∧Hid (Below w.heap.size w wr)) (fun _ _ iv _ => n - (intOf iv).toNat)
 case atStart => exact ⟨_,_,0,rfl,rfl,rfl,Nat.zero_le _,qH (Below.refl _ _)⟩
 obtain ⟨m,d,i,rfl,rfl,rfl,hin,HB⟩:=hrel
 by_cases hlt:i < n
 ·have hlt':(i:Int) < (n:Int):=by omega
  by_cases hm:m < 5000
  ·obtain ⟨x,hx⟩:∃ x,l[i]? = some x:=⟨_,List.getElem?_eq_getElem (by rw [<- HN.out]; exact hlt)⟩
   obtain ⟨b,o,vs,rfl,hgb,hbw0,hvl,hRx,hcs⟩:=HV.out.at i x hx
   have hE:EltS b (o + i * 11) vs wr:=EltS.below (w:=w) hcs hbw0 HB.out
   have hbw:b < wr.heap.size:=Nat.lt_of_lt_of_le hbw0 HB.out.size
   obtain ⟨h0,h1x,h2,h3,h4,fv,rv,rfl,⟨hx1,hx2,hx3,hx4⟩,hH,hF,hR2⟩:=hRx
   obtain ⟨A0,c0,A3,c3,A4,c4,n0,n3,n4,y1,y2,rfl,rfl,rfl,rfl,rfl⟩:=hd_shp hH
   obtain ⟨rA,rc,rfl,rl1,rl2⟩:=hR2.shape
   obtain ⟨rn,hrn⟩:=gX (x.2.2.2.2.2.2.length)
   unfold maxLen at rl2
   have HR2:=qH hR2
   have HRN:=qH hrn
   rw [<- hrn] at hE rl1
   have hrn2:rn≤9223372036854775807:=by omega
   have HE:=qH hE
   have e3:=hE 3 _ rfl
   have e4:=hE 4 _ rfl
   have e7:=hE 7 _ rfl
   have e8:=hE 8 _ rfl
   clear hR2 hrn rl1 rl2 hH hcs hx hx1 hx2 hx3 hx4 hvl hE
   go_upto_region 5 with fail
   go_quiet (fail)
   generalize wrap64 (wrap64 (wrap64 (wrap64 (m + ↑n0) + ↑n3) + ↑n4) + wrap64 (↑x.2.2.2.1.size / 20)) = m1
   clear e3 e4 e7 e8
   obtain ⟨w1,hw1⟩:=gX (wr.drewN nq)
   rw [<- hw1]
   replace HB:=qH (show Below w.heap.size w w1 by rw [hw1]; exact aR HB.out nq)
   replace HE:=qH (show EltS b (o + i * 11) _ w1 by rw [hw1]; exact HE.out)
   have hbw1:b < w1.heap.size:=by rw [hw1]; exact hbw
   have e9:=HE.out 9 _ rfl
   have CF:Hid (∀ (W:World),Below w.heap.size w W→Calls Tryz.prog 45 #[fv] W (TwoC W)):=qH (fun W hW => HI G W fv _ (hF.below hR HG.out hW) (fun b h => Nat.lt_of_lt_of_le (HG.out b h) hW.size))
   clear hw1 hF hbw
   go_wp2_with fail
   refine (CF.out _ HB.out).mono ?_
   rintro e w2 ⟨a1,b1,rfl,hb2⟩
   clear e9 CF
   replace HE:=qH (HE.out.below hbw1 hb2)
   have hbw2:=Nat.lt_of_lt_of_le hbw1 hb2.size
   replace HB:=qH (HB.out.trans (hb2.mono HB.out.size))
   clear hb2 hbw1
   obtain ⟨m2,hm2⟩:∃ M,wrap64 (m1 + a1) = M:=⟨_,rfl⟩
   obtain ⟨d1,hd1⟩:∃ D,wrap64 (b1 + 1) = D:=⟨_,rfl⟩
   obtain ⟨d2,hd2⟩:∃ D,(if d < d1 then d1 else d) = D:=⟨_,rfl⟩
   go_wp2_with fail
   clear hm2 hd1 hd2
   go_loopw [2,3,7] (fun mv dv iv wr => ∃ (m d:Int) (k:Nat),mv = .int .i64 m∧dv = .int .i64 d∧iv = .int .i64 (k:Int)∧k≤rn∧Hid (Below w2.heap.size w2 wr)) (fun _ _ iv _ => rn - (intOf iv).toNat)
   case atStart => exact ⟨_,_,0,rfl,rfl,rfl,Nat.zero_le _,qH (Below.refl _ _)⟩
   rename World => wq
   obtain ⟨m3,d3,k,rfl,rfl,rfl,hkn,HBq⟩:=hrel
   have HE2:=qH (HE.out.below hbw2 HBq.out)
   have hBW:=qH (HB.out.trans (HBq.out.mono HB.out.size))
   have hsq:w2.heap.size≤wq.heap.size:=HBq.out.size
   have e10:=HE2.out 10 _ rfl
   by_cases hklt:k < rn
   ·have hklt':(k:Int) < (rn:Int):=by omega
    by_cases hm3:m3 < 5000
    ·obtain ⟨y,hy⟩:∃ y,x.2.2.2.2.2.2[k]? = some y:=⟨_,List.getElem?_eq_getElem (by rw [<- HRN.out]; exact hklt)⟩
     obtain ⟨rb,ro,rvs,rfl,hrgb,hrbw0,hrvl,hRy,hrcs⟩:=HR2.out.at k y hy
     have hrE:EltS rb (ro + k * 6) rvs wq:=EltS.below (w:=w) hrcs hrbw0 hBW.out
     obtain ⟨r0,r1,r2,r3,r4,cv,rfl,hrH,hC⟩:=hRy
     obtain ⟨A5,c5,A8,c8,A9,c9,n5,n8,n9,i1,i2,rfl,rfl,rfl,rfl,rfl⟩:=hd_shp hrH
     obtain ⟨cA,cc,rfl,cl1,cl2⟩:=hC.shape
     obtain ⟨cn,hcn⟩:=gX (y.2.length)
     unfold maxLen at cl2
     have HC:=qH hC
     have HCN:=qH hcn
     rw [<- hcn] at hrE cl1
     have hcn2:cn≤9223372036854775807:=by omega
     have z0:=hrE 0 _ rfl
     simp only [Nat.add_zero] at z0
     have z1:=hrE 1 _ rfl
     have z2:=hrE 2 _ rfl
     have z3:=hrE 3 _ rfl
     have z4:=hrE 4 _ rfl
     have z5:=hrE 5 _ rfl
     clear hC hcn cl1 cl2 hrH hrcs hy hrvl hrE
     obtain ⟨m4,hm4⟩:∃ M,wrap64 (wrap64 (wrap64 (wrap64 (m3 + 1) + (n5:Int)) + (n8:Int)) + (n9:Int)) = M:=⟨_,rfl⟩
     obtain ⟨g,hg⟩:=gX (wq.heap.size)
     go_wp2_with fail
     clear z0 z1 z2 z3 z4 z5 hm4
     obtain ⟨W3,hW3⟩:=gX (wq.alloc (.cells #[.slice A5 n5 c5,.int .i64 i1,.int .i64 i2,.slice A8 n8 c8,.slice A9 n9 c9,.slice cA cn cc] 156))
     have hb3:W3.heap[g]? = some (.cells #[.slice A5 n5 c5,.int .i64 i1,.int .i64 i2,.slice A8 n8 c8,.slice A9 n9 c9,.slice cA cn cc] 156 (0,0)):=by rw [hW3]; exact ag _ _ hg
     have hB3:Below wq.heap.size wq W3:=by rw [hW3]; exact (Below.refl _ _).alloc (Nat.le_refl _) _
     rw [<- hW3,<- hg]
     have HB3:=qH hB3
     rw [<- hg] at hB3
     clear hW3
     have HBX:=qH (hBW.out.trans (hB3.mono (by have:=hBW.out.size; omega)))
     have hgW:g < W3.heap.size:=ac hb3
     have hwg:w.heap.size≤g:=by have:=hBW.out.size; omega
     have Hb3:=qH hb3
     have HGq:=qH hg
     clear hb3 hB3 hg
     go_loopw [2,3,9] (fun mv dv iv wr => ∃ (m d:Int) (j:Nat),mv = .int .i64 m∧dv = .int .i64 d∧iv = .int .i64 (j:Int)∧j≤cn∧Hid (Below W3.heap.size W3 wr)) (fun _ _ iv _ => cn - (intOf iv).toNat)
     case atStart => exact ⟨_,_,0,rfl,rfl,rfl,Nat.zero_le _,qH (Below.refl _ _)⟩
     rename World => ws
     obtain ⟨m5,d5,j,rfl,rfl,rfl,hjn,HBs⟩:=hrel
     have Hbs:=qH ((HBs.out.block _ hgW).trans Hb3.out)
     have hBS:=qH (HBX.out.trans (HBs.out.mono HBX.out.size))
     have f0:=aa Hbs.out 0
     have f1:=aa Hbs.out 1
     have f2:=aa Hbs.out 2
     have f3:=aa Hbs.out 3
     have f4:=aa Hbs.out 4
     have f5:=aa Hbs.out 5
     by_cases hjlt:j < cn
     ·have hjlt':(j:Int) < (cn:Int):=by omega
      by_cases hm5:m5 < 5000
      ·obtain ⟨z,hz⟩:∃ z,y.2[j]? = some z:=⟨_,List.getElem?_eq_getElem (by rw [<- HCN.out]; exact hjlt)⟩
       obtain ⟨cb,co,cvs,rfl,hcgb,hcbw0,hcvl,hRz,hccs⟩:=HC.out.at j z hz
       have hcE:EltS cb (co + j * 7) cvs ws:=EltS.below (w:=w) hccs hcbw0 hBS.out
       obtain ⟨k0,k1,k2,k3,k4,fv2,rfl,hz1,hzH,hzF⟩:=hRz
       obtain ⟨B1,e1,B4,e4,B5,e5,p1,p4,p5,j1,j2,rfl,rfl,rfl,rfl,rfl⟩:=hd_shp hzH
       have CF:Hid (∀ (W:World),Below w.heap.size w W→Calls Tryz.prog 45 #[fv2] W (TwoC W)):=qH (fun W hW => HI G W fv2 _ (hzF.below hR HG.out hW) (fun b h => Nat.lt_of_lt_of_le (HG.out b h) hW.size))
       have HCE:=qH hcE
       have c6:=hcE 6 _ rfl
       have hcb:cb < ws.heap.size:=Nat.lt_of_lt_of_le hcbw0 hBS.out.size
       clear hccs hz hcvl hz1 hzH hzF hcE
       go_wp2_with fail
       refine (CF.out _ hBS.out).mono ?_
       rintro e w5 ⟨a5,b5,rfl,hb5⟩
       clear CF c6 f0 f1 f2 f3 f4 f5
       replace HCE:=qH (HCE.out.below hcb hb5)
       replace Hbs:=qH ((hb5.block _ (by have:=HBs.out.size; omega)).trans Hbs.out)
       replace HBs:=qH (HBs.out.trans (hb5.mono HBs.out.size))
       clear hb5 hBS hcb
       have f5:=aa Hbs.out 5
       have q1:=HCE.out 1 _ rfl
       have q4:=HCE.out 4 _ rfl
       have q5:=HCE.out 5 _ rfl
       obtain ⟨D5,hD5⟩:∃ D,wrap64 (b5 + 1) = D:=⟨_,rfl⟩
       obtain ⟨E5,hE5⟩:∃ D,(if d5 < D5 then D5 else d5) = D:=⟨_,rfl⟩
       go_upto_region 17 with fail
       go_quiet (fail)
       clear f5 q1 q4 q5 hD5 hE5
       obtain ⟨w6,hw6⟩:=gX (w5.drewN nq)
       rw [<- hw6]
       replace HBs:=qH (show Below W3.heap.size W3 w6 by rw [hw6]; exact aR HBs.out nq)
       clear hw6 Hbs HCE
       go_wp2_with fail
       exact ⟨⟨_,_,j + 1,rfl,rfl,by go_num,by omega,HBs⟩,by simp [intOf]; omega⟩
      go_wp2_with fail
      exact ⟨⟨_,_,k + 1,rfl,rfl,by go_num,by omega,qH (HBq.out.trans ((Below.trans HB3.out (HBs.out.mono (by have:=HB3.out.size; omega))).mono HBq.out.size))⟩,by simp [intOf]; omega⟩
     go_wp2_with fail
     exact ⟨⟨_,_,k + 1,rfl,rfl,by go_num,by omega,qH (HBq.out.trans ((Below.trans HB3.out (HBs.out.mono (by have:=HB3.out.size; omega))).mono HBq.out.size))⟩,by simp [intOf]; omega⟩
    go_wp2_with fail
    exact ⟨⟨_,_,i + 1,rfl,rfl,by go_num,by omega,hBW⟩,by simp [intOf]; omega⟩
   go_wp2_with fail
   exact ⟨⟨_,_,i + 1,rfl,rfl,by go_num,by omega,hBW⟩,by simp [intOf]; omega⟩
  go_wp2_with fail
  go_ret2
  exact ⟨m,d,rfl,HB.out⟩
 go_wp2_with fail
 go_ret2
 exact ⟨m,d,rfl,HB.out⟩
theorem weight_none (w:World) (A:Option Addr) (cp:Nat):Calls Tryz.prog 45 #[.slice A 0 cp] w (TwoC w):=by
 go_enter Tryz.func45,Tryz.ntmps45
 go_wp2_with fail
 go_loopw [2,3,4] (fun mv dv iv wr => mv = .int .i64 0∧dv = .int .i64 1∧iv = .int .i64 0∧wr = w) (fun _ _ _ _ => 0)
 case atStart => exact ⟨rfl,rfl,rfl,rfl⟩
 obtain ⟨rfl,rfl,rfl,hw⟩:=hrel
 subst hw
 go_wp2_with fail
 go_ret2
 exact ⟨0,1,rfl,Below.refl _ _⟩
theorem weight_any:∀ n,WeiS (itP n)
 | 0 => fun G w v l hv hG => by
  have e:l = []:=by
   cases l with
   | nil => rfl
   | cons x _ => exact Empty.elim x
  subst e
  obtain ⟨A,cp,hsl,_,_⟩:=hv.shape
  subst hsl
  exact weight_none w A cp
 | n + 1 => weight_step (itP n) (as_ n) (weight_any n)
theorem small18 (w0 w:World) (vals:List Value) (b o c:Nat) (hc:EltS b o vals w) (hn:vals.length≤1000) (hb:b < w.heap.size) (hB:Below w0.heap.size w0 w) (hC:∀ v∈vals,∀ W,Below w0.heap.size w0 W→Calls Tryz.prog 45 #[v] W (TwoC W)) :
  Calls Tryz.prog 18 #[.slice (some ⟨b,o,none⟩) vals.length c] w (BoolC w):=by
 obtain ⟨n,hn'⟩:=gX (vals.length)
 rw [<- hn'] at hn ⊢
 have HN:=qH hn'
 have HC:=qH hC
 have HE:=qH hc
 have HB:=qH hB
 clear hn' hC hc hB
 go_enter Tryz.func18,Tryz.ntmps18
 go_wp2_with fail
 go_loopw [3] (fun iv wr => ∃ i:Nat,iv = .int .i64 (i:Int)∧i≤n∧Hid (Below w.heap.size w wr)) (fun iv _ => n - (intOf iv).toNat)
 case atStart => exact ⟨0,rfl,Nat.zero_le _,qH (Below.refl _ _)⟩
 obtain ⟨i,rfl,hin,HW⟩:=hrel
 by_cases hlt:i < n
 ·have hlt':(i:Int) < (n:Int):=by omega
  obtain ⟨x,hx⟩:∃ x,vals[i]? = some x:=⟨_,List.getElem?_eq_getElem (by rw [<- HN.out]; exact hlt)⟩
  have hE:=(HE.out.below hb HW.out) i x hx
  have HF:=qH (HC.out x (List.mem_of_getElem? hx) wr (HB.out.trans (HW.out.mono HB.out.size)))
  clear hx
  go_wp2_with fail
  refine HF.out.mono ?_
  rintro e w2 ⟨a,d,rfl,hb2⟩
  have HW2:=qH (HW.out.trans (hb2.mono HW.out.size))
  clear HF hE hb2 HW
  by_cases h1:a > 300
  ·go_wp2_with fail
   go_ret
   exact ⟨_,rfl,HW2.out⟩
  by_cases h2:d > 6
  ·go_wp2_with fail
   go_ret
   exact ⟨_,rfl,HW2.out⟩
  go_wp2_with fail
  exact ⟨⟨i + 1,by go_num,by omega,HW2⟩,by simp [intOf]; omega⟩
 go_wp2_with fail
 go_ret
 exact ⟨_,rfl,HW.out⟩
end Go.Proofs.YtmhhcfceikcfbaaGreat
namespace Go.Proofs.YtmhhcfceikcfbaaGreat
open Go.RowKit
set_option maxRecDepth 100000
set_option maxHeartbeats 4000000
theorem few19 (G:Nat→Prop) (w:World) (vs:List Value) (x:Stg) (hR:stgP w G vs x) (_hG:∀ b,G b→b < w.heap.size):Calls Tryz.prog 19 #[.agg vs.toArray] w (BoolC w):=by
 obtain ⟨v0,v1,v2,v3,rfl,h0,h1,h2,h3⟩:=hR
 obtain ⟨A0,c0,rfl,l0,m0⟩:=h0.shape
 obtain ⟨n0,hn0⟩:=gX (x.1.length)
 unfold maxLen at m0
 have H0:=qH h0
 have HN0:=qH hn0
 rw [<- hn0]
 have r0:n0≤9223372036854775807:=by omega
 clear h0 hn0 l0 m0
 obtain ⟨A1,c1,rfl,l1,m1⟩:=h1.shape
 obtain ⟨n1,hn1⟩:=gX (x.2.1.length)
 unfold maxLen at m1
 have H1:=qH h1
 have HN1:=qH hn1
 rw [<- hn1]
 have r1:n1≤9223372036854775807:=by omega
 clear h1 hn1 l1 m1
 obtain ⟨A2,c2,rfl,l2,m2⟩:=h2.shape
 obtain ⟨n2,hn2⟩:=gX (x.2.2.1.length)
 unfold maxLen at m2
 have H2:=qH h2
 have HN2:=qH hn2
 rw [<- hn2]
 have r2:n2≤9223372036854775807:=by omega
 clear h2 hn2 l2 m2
 obtain ⟨A3,c3,rfl,l3,m3⟩:=h3.shape
 obtain ⟨n3,hn3⟩:=gX (x.2.2.2.length)
 unfold maxLen at m3
 have H3:=qH h3
 have HN3:=qH hn3
 rw [<- hn3]
 have r3:n3≤9223372036854775807:=by omega
 clear h3 hn3 l3 m3
 obtain ⟨g,hg⟩:=gX (w.heap.size)
 obtain ⟨W,hW⟩:=gX (w.alloc (.cells #[.slice A0 n0 c0,.slice A1 n1 c1,.slice A2 n2 c2,.slice A3 n3 c3] 47))
 have hb:W.heap[g]? = some (.cells #[.slice A0 n0 c0,.slice A1 n1 c1,.slice A2 n2 c2,.slice A3 n3 c3] 47 (0,0)):=by rw [hW]; exact ag _ _ hg
 have HB:Hid (Below w.heap.size w W):=qH (by rw [hW]; exact (Below.refl _ _).alloc (Nat.le_refl _) _)
 have HW:=qH hW
 have HGq:=qH hg
 have p0:=aa hb 0
 have p1:=aa hb 1
 have p2:=aa hb 2
 have p3:=aa hb 3
 clear hW hb hg
 go_enter Tryz.func19,Tryz.ntmps19
 go_upto_region 1 with fail
 rw [<- HW.out,<- HGq.out]
 clear HW HGq
 by_cases qn0:n0 > 40
 ·have qn0':(n0:Int) > 40:=by omega
  go_wp2_with fail
  go_ret
  exact ⟨_,rfl,HB.out⟩
 have qn0':¬ (n0:Int) > 40:=by omega
 by_cases qn1:n1 > 40
 ·have qn1':(n1:Int) > 40:=by omega
  go_wp2_with fail
  go_ret
  exact ⟨_,rfl,HB.out⟩
 have qn1':¬ (n1:Int) > 40:=by omega
 by_cases qn2:n2 > 40
 ·have qn2':(n2:Int) > 40:=by omega
  go_wp2_with fail
  go_ret
  exact ⟨_,rfl,HB.out⟩
 have qn2':¬ (n2:Int) > 40:=by omega
 by_cases qn3:n3 > 40
 ·have qn3':(n3:Int) > 40:=by omega
  go_wp2_with fail
  go_ret
  exact ⟨_,rfl,HB.out⟩
 have qn3':¬ (n3:Int) > 40:=by omega
 go_wp2_with fail
 go_loop [3] (fun iv => ∃ i:Nat,iv = .int .i64 (i:Int)∧i≤n0) (fun iv => n0 - (intOf iv).toNat)
 case atStart => exact ⟨0,rfl,Nat.zero_le _⟩
 obtain ⟨i,rfl,hin⟩:=hrel
 by_cases hlt:i < n0
 ·have hlt':(i:Int) < (n0:Int):=by omega
  obtain ⟨y,hy⟩:∃ y,x.1[i]? = some y:=⟨_,List.getElem?_eq_getElem (by rw [<- HN0.out]; exact hlt)⟩
  obtain ⟨b,o,vs,rfl,hgb,hbw,hvl,hRx,hcs⟩:=H0.out.at i y hy
  have hE:EltS b (o + i * 6) vs W:=EltS.below (w:=w) hcs hbw HB.out
  obtain ⟨pv,rfl,_,hl⟩:=hRx
  obtain ⟨lA,lc,rfl,ll1,ll2⟩:=hl.shape
  obtain ⟨t1,ht1⟩:=gX (y.2.2.2.2.2.length)
  rw [<- ht1] at hE
  obtain ⟨s1,hs1⟩:=gX (y.2.2.1)
  rw [<- hs1] at hE
  clear hs1
  clear ht1 hl ll1 ll2
  have e2:=hE 2 _ rfl
  have e5:=hE 5 _ rfl
  clear hcs hy hvl hE
  by_cases qs1:s1.size > 300
  ·have qs1':(s1.size:Int) > 300:=by omega
   go_wp2_with fail
   go_ret
   exact ⟨_,rfl,HB.out⟩
  have qs1':¬ (s1.size:Int) > 300:=by omega
  by_cases qt1:t1 > 20
  ·have qt1':(t1:Int) > 20:=by omega
   go_wp2_with fail
   go_ret
   exact ⟨_,rfl,HB.out⟩
  have qt1':¬ (t1:Int) > 20:=by omega
  go_wp2_with fail
  exact ⟨⟨i + 1,by go_num,by omega⟩,by simp [intOf]; omega⟩
 have hlt':¬ (i:Int) < (n0:Int):=by omega
 go_wp2_with fail
 go_loop [4] (fun iv => ∃ i:Nat,iv = .int .i64 (i:Int)∧i≤n1) (fun iv => n1 - (intOf iv).toNat)
 case atStart => exact ⟨0,rfl,Nat.zero_le _⟩
 obtain ⟨i,rfl,hin⟩:=hrel
 by_cases hlt:i < n1
 ·have hlt':(i:Int) < (n1:Int):=by omega
  obtain ⟨y,hy⟩:∃ y,x.2.1[i]? = some y:=⟨_,List.getElem?_eq_getElem (by rw [<- HN1.out]; exact hlt)⟩
  obtain ⟨b,o,vs,rfl,hgb,hbw,hvl,hRx,hcs⟩:=H1.out.at i y hy
  have hE:EltS b (o + i * 2) vs W:=EltS.below (w:=w) hcs hbw HB.out
  obtain ⟨lv,rfl,_,hl⟩:=hRx
  obtain ⟨lA,lc,rfl,ll1,ll2⟩:=hl.shape
  obtain ⟨t1,ht1⟩:=gX (y.2.length)
  unfold maxLen at ll2
  have HL:=qH hl
  have HT:=qH ht1
  rw [<- ht1] at hE ll1
  have ht2:t1≤9223372036854775807:=by omega
  clear ht1 hl ll1 ll2
  have e1:=hE 1 _ rfl
  clear hcs hy hvl hE
  by_cases qt1:t1 > 20
  ·have qt1':(t1:Int) > 20:=by omega
   go_wp2_with fail
   go_ret
   exact ⟨_,rfl,HB.out⟩
  have qt1':¬ (t1:Int) > 20:=by omega
  go_wp2_with fail
  go_loop [5] (fun jv => ∃ j:Nat,jv = .int .i64 (j:Int)∧j≤t1) (fun jv => t1 - (intOf jv).toNat)
  case atStart => exact ⟨0,rfl,Nat.zero_le _⟩
  obtain ⟨j,rfl,hjn⟩:=hrel
  by_cases hjl:j < t1
  ·have hjl':(j:Int) < (t1:Int):=by omega
   obtain ⟨z,hz⟩:∃ z,y.2[j]? = some z:=⟨_,List.getElem?_eq_getElem (by rw [<- HT.out]; exact hjl)⟩
   obtain ⟨b2,o2,vs2,rfl,hgb2,hbw2,hvl2,hRz,hcs2⟩:=HL.out.at j z hz
   have hE2:EltS b2 (o2 + j * 4) vs2 W:=EltS.below (w:=w) hcs2 hbw2 HB.out
   obtain ⟨rfl,_⟩:=hRz
   obtain ⟨s1,hs1⟩:=gX (z.2.2.1)
   rw [<- hs1] at hE2
   clear hs1
   have f2:=hE2 2 _ rfl
   clear hcs2 hz hvl2 hE2
   by_cases qs1:s1.size > 300
   ·have qs1':(s1.size:Int) > 300:=by omega
    go_wp2_with fail
    go_ret
    exact ⟨_,rfl,HB.out⟩
   have qs1':¬ (s1.size:Int) > 300:=by omega
   go_wp2_with fail
   exact ⟨⟨j + 1,by go_num,by omega⟩,by simp [intOf]; omega⟩
  have hjl':¬ (j:Int) < (t1:Int):=by omega
  go_wp2_with fail
  exact ⟨⟨i + 1,by go_num,by omega⟩,by simp [intOf]; omega⟩
 have hlt':¬ (i:Int) < (n1:Int):=by omega
 go_wp2_with fail
 go_loop [6] (fun iv => ∃ i:Nat,iv = .int .i64 (i:Int)∧i≤n2) (fun iv => n2 - (intOf iv).toNat)
 case atStart => exact ⟨0,rfl,Nat.zero_le _⟩
 obtain ⟨i,rfl,hin⟩:=hrel
 by_cases hlt:i < n2
 ·have hlt':(i:Int) < (n2:Int):=by omega
  obtain ⟨y,hy⟩:∃ y,x.2.2.1[i]? = some y:=⟨_,List.getElem?_eq_getElem (by rw [<- HN2.out]; exact hlt)⟩
  obtain ⟨b,o,vs,rfl,hgb,hbw,hvl,hRx,hcs⟩:=H2.out.at i y hy
  have hE:EltS b (o + i * 6) vs W:=EltS.below (w:=w) hcs hbw HB.out
  obtain ⟨rfl,_⟩:=hRx
  obtain ⟨s1,hs1⟩:=gX (y.2.2.1)
  rw [<- hs1] at hE
  obtain ⟨s2,hs2⟩:=gX (y.2.2.2.2.1)
  rw [<- hs2] at hE
  clear hs1
  clear hs2
  have e2:=hE 2 _ rfl
  have e4:=hE 4 _ rfl
  clear hcs hy hvl hE
  by_cases qs1:s1.size > 300
  ·have qs1':(s1.size:Int) > 300:=by omega
   go_wp2_with fail
   go_ret
   exact ⟨_,rfl,HB.out⟩
  have qs1':¬ (s1.size:Int) > 300:=by omega
  by_cases qs2:s2.size > 300
  ·have qs2':(s2.size:Int) > 300:=by omega
   go_wp2_with fail
   go_ret
   exact ⟨_,rfl,HB.out⟩
  have qs2':¬ (s2.size:Int) > 300:=by omega
  go_wp2_with fail
  exact ⟨⟨i + 1,by go_num,by omega⟩,by simp [intOf]; omega⟩
 have hlt':¬ (i:Int) < (n2:Int):=by omega
 go_wp2_with fail
 go_loop [7] (fun iv => ∃ i:Nat,iv = .int .i64 (i:Int)∧i≤n3) (fun iv => n3 - (intOf iv).toNat)
 case atStart => exact ⟨0,rfl,Nat.zero_le _⟩
 obtain ⟨i,rfl,hin⟩:=hrel
 by_cases hlt:i < n3
 ·have hlt':(i:Int) < (n3:Int):=by omega
  obtain ⟨y,hy⟩:∃ y,x.2.2.2[i]? = some y:=⟨_,List.getElem?_eq_getElem (by rw [<- HN3.out]; exact hlt)⟩
  obtain ⟨b,o,vs,rfl,hgb,hbw,hvl,hRx,hcs⟩:=H3.out.at i y hy
  have hE:EltS b (o + i * 2) vs W:=EltS.below (w:=w) hcs hbw HB.out
  obtain ⟨rfl,_⟩:=hRx
  obtain ⟨s1,hs1⟩:=gX (y.1)
  rw [<- hs1] at hE
  obtain ⟨s2,hs2⟩:=gX (y.2)
  rw [<- hs2] at hE
  clear hs1
  clear hs2
  have e0:=hE 0 _ rfl
  have e1:=hE 1 _ rfl
  clear hcs hy hvl hE
  simp only [Nat.add_zero] at e0
  by_cases qs1:s1.size > 300
  ·have qs1':(s1.size:Int) > 300:=by omega
   go_wp2_with fail
   go_ret
   exact ⟨_,rfl,HB.out⟩
  have qs1':¬ (s1.size:Int) > 300:=by omega
  by_cases qs2:s2.size > 300
  ·have qs2':(s2.size:Int) > 300:=by omega
   go_wp2_with fail
   go_ret
   exact ⟨_,rfl,HB.out⟩
  have qs2':¬ (s2.size:Int) > 300:=by omega
  go_wp2_with fail
  exact ⟨⟨i + 1,by go_num,by omega⟩,by simp [intOf]; omega⟩
 have hlt':¬ (i:Int) < (n3:Int):=by omega
 go_wp2_with fail
 go_ret
 exact ⟨_,rfl,HB.out⟩
theorem i64_0:I64 0:=⟨by decide,by decide⟩
theorem hdz (w:World) (G:Nat→Prop):hdP w G [.slice none 0 0,.int .i64 0,.int .i64 0,.slice none 0 0,.slice none 0 0] ([],0,0,[],[]) :=
 ⟨_,_,_,rfl,i64_0,i64_0,Slv.nil _ _,Slv.nil _ _,Slv.nil _ _⟩
theorem slv_one {α:Type} {R:Rp α} {sz g:Nat} {t:TypeId} {W:World} {G:Nat→Prop} {cs:Array Value} {x:α} (hb:W.heap[g]? = some (.cells cs t (0,0))) (hs:cs.size = sz) (hG:G g) (hR:R W G cs.toList x):Slv R sz W G (.slice (some ⟨g,0,none⟩) 1 1) [x]:=by
 refine ⟨_,_,rfl,by simp,by simp [maxLen],fun _ => ⟨g,0,rfl,hG,ac hb,fun i y hy => ?_⟩⟩
 have hi:i = 0:=by
  have:=(List.getElem?_eq_some_iff.1 hy).1
  simp at this
  exact this
 subst hi
 simp only [List.getElem?_cons_zero,Option.some.injEq] at hy
 subst hy
 refine ⟨cs.toList,by simp [hs],hR,fun j u hu => ?_⟩
 rw [show 0 + 0 * sz + j = j by omega,aa hb j]
 simpa using hu
theorem Slv.mono {α:Type} {R:Rp α} {sz:Nat} (hR:Stb R) {w w':World} {G G':Nat→Prop} {v:Value} {l:List α} (hv:Slv R sz w G v l) (_hG:∀ b,G b→b < w.heap.size) (hG':∀ b,G b→G' b) (hb:Below w.heap.size w w'):Slv R sz w' G' v l :=
 Slv.stb hR hG' (fun b _hg hl => hb.block b hl) hv
theorem it_of_rows (n:Nat) {W:World} {G':Nat→Prop} {rv:Value} {l:List (Rw n)} (h:Slv (rwP (itP n)) 6 W G' rv l):itP (n + 1) W G' [.int .i64 0,.int .i64 0,.int .i64 0,.string ⟨#[]⟩,.slice none 0 0,.int .i64 0,.int .i64 0,.slice none 0 0,.slice none 0 0,.slice none 0 0,rv] ((0:Int),(0:Int),(0:Int),(⟨#[]⟩:ByteArray),(([],0,0,[],[]):Hd),([]:List (It n)),l) :=
 ⟨_,_,_,_,_,_,_,rfl,⟨i64_0,i64_0,i64_0,Nat.zero_le _⟩,hdz _ _,Slv.nil _ _,h⟩
theorem small29 (n:Nat) (G:Nat→Prop) (w:World) (v0 v1 v2:Value) (l0:List (It n)) (l1:List (Rw n)) (l2:List (Ce n)) (h0:Slv (itP n) 11 w G v0 l0) (h1:Slv (rwP (itP n)) 6 w G v1 l1) (h2:Slv (ceP (itP n)) 7 w G v2 l2) (hG:∀ b,G b→b < w.heap.size) :
  Calls Tryz.prog 29 #[v0,v1,v2] w (BoolC w):=by
 obtain ⟨A0,c0,e0,_,_⟩:=h0.shape
 obtain ⟨A1,c1,e1,_,_⟩:=h1.shape
 obtain ⟨A2,c2,e2,_,_⟩:=h2.shape
 obtain ⟨N,hN⟩:=gX (w.heap.size)
 obtain ⟨W,hW⟩:=gX (((((w.alloc (.cells #[.int .i64 0,.int .i64 0,.int .i64 0,.string ⟨#[]⟩,.slice none 0 0,.int .i64 0,.int .i64 0,.slice none 0 0,.slice none 0 0,.slice none 0 0,v1] 53)).alloc (.cells #[.slice none 0 0,.int .i64 0,.int .i64 0,.slice none 0 0,.slice none 0 0,v2] 156)).alloc (.cells #[.int .i64 0,.int .i64 0,.int .i64 0,.string ⟨#[]⟩,.slice none 0 0,.int .i64 0,.int .i64 0,.slice none 0 0,.slice none 0 0,.slice none 0 0,.slice (some ⟨N + 1,0,none⟩) 1 1] 53)).alloc (.cells #[v0,.slice (some ⟨N,0,none⟩) 1 1,.slice (some ⟨N + 2,0,none⟩) 1 1] 33)))
 have b1:W.heap[N]? = some (.cells #[.int .i64 0,.int .i64 0,.int .i64 0,.string ⟨#[]⟩,.slice none 0 0,.int .i64 0,.int .i64 0,.slice none 0 0,.slice none 0 0,.slice none 0 0,v1] 53 (0,0)):=by
  rw [hW,hN]
  refine (Below.heap_alloc _ _ _ (by simp; omega)).trans ((Below.heap_alloc _ _ _ (by simp; omega)).trans ((Below.heap_alloc _ _ _ (by simp)).trans (heap_alloc_new _ _)))
 have b2:W.heap[N + 1]? = some (.cells #[.slice none 0 0,.int .i64 0,.int .i64 0,.slice none 0 0,.slice none 0 0,v2] 156 (0,0)):=by
  rw [hW,hN]
  refine (Below.heap_alloc _ _ _ (by simp)).trans ((Below.heap_alloc _ _ _ (by simp)).trans (ag _ _ (by simp)))
 have b3:W.heap[N + 2]? = some (.cells #[.int .i64 0,.int .i64 0,.int .i64 0,.string ⟨#[]⟩,.slice none 0 0,.int .i64 0,.int .i64 0,.slice none 0 0,.slice none 0 0,.slice none 0 0,.slice (some ⟨N + 1,0,none⟩) 1 1] 53 (0,0)):=by
  rw [hW,hN]
  refine (Below.heap_alloc _ _ _ (by simp)).trans (ag _ _ (by simp))
 have b4:W.heap[N + 3]? = some (.cells #[v0,.slice (some ⟨N,0,none⟩) 1 1,.slice (some ⟨N + 2,0,none⟩) 1 1] 33 (0,0)):=by
  rw [hW,hN]
  exact ag _ _ (by simp)
 have hB:Below w.heap.size w W:=by
  rw [hW]
  exact ((((Below.refl _ _).alloc (Nat.le_refl _) _).alloc (by simp) _).alloc (by simp; omega) _).alloc (by simp; omega) _
 have hWs:W.heap.size = N + 4:=by rw [hW,hN]; simp
 have hGW:∀ b,(G b∨b = N∨b = N + 1∨b = N + 2)→b < W.heap.size:=by
  rintro b (h | h | h | h)
  ·have:=hG b h; omega
  ·omega
  ·omega
  omega
 have k0:Slv (itP n) 11 W (fun b => G b∨b = N∨b = N + 1∨b = N + 2) v0 l0:=h0.mono (as_ n) hG (fun b h => .inl h) hB
 have k1:Slv (rwP (itP n)) 6 W (fun b => G b∨b = N∨b = N + 1∨b = N + 2) v1 l1:=h1.mono (be (as_ n)) hG (fun b h => .inl h) hB
 have k2:Slv (ceP (itP n)) 7 W (fun b => G b∨b = N∨b = N + 1∨b = N + 2) v2 l2:=h2.mono (bw (as_ n)) hG (fun b h => .inl h) hB
 have k3:Slv (itP (n + 1)) 11 W (fun b => G b∨b = N∨b = N + 1∨b = N + 2) (.slice (some ⟨N,0,none⟩) 1 1) _:=slv_one b1 rfl (.inr (.inl rfl)) (it_of_rows n k1)
 have k4:Slv (rwP (itP n)) 6 W (fun b => G b∨b = N∨b = N + 1∨b = N + 2) (.slice (some ⟨N + 1,0,none⟩) 1 1) _:=slv_one b2 rfl (.inr (.inr (.inl rfl))) (x:=(([],0,0,[],[]),l2)) ⟨_,_,_,_,_,_,rfl,hdz _ _,k2⟩
 have k5:Slv (itP (n + 1)) 11 W (fun b => G b∨b = N∨b = N + 1∨b = N + 2) (.slice (some ⟨N + 2,0,none⟩) 1 1) _:=slv_one b3 rfl (.inr (.inr (.inr rfl))) (it_of_rows n k4)
 have C:=small18 W W [v0,.slice (some ⟨N,0,none⟩) 1 1,.slice (some ⟨N + 2,0,none⟩) 1 1] (N + 3) 0 3 (fun j u hu => by rw [Nat.zero_add,aa b4 j]; simpa using hu) (by simp) (by omega) (Below.refl _ _) (by
  intro v hv X hX
  simp only [List.mem_cons,List.not_mem_nil,or_false] at hv
  rcases hv with rfl | rfl | rfl
  ·exact weight_any n _ X _ _ (k0.below (as_ n) hGW hX) (fun b h => Nat.lt_of_lt_of_le (hGW b h) hX.size)
  ·exact weight_any (n + 1) _ X _ _ (k3.below (as_ (n + 1)) hGW hX) (fun b h => Nat.lt_of_lt_of_le (hGW b h) hX.size)
  exact weight_any (n + 1) _ X _ _ (k5.below (as_ (n + 1)) hGW hX) (fun b h => Nat.lt_of_lt_of_le (hGW b h) hX.size))
 have C:=qH C
 have HW:=qH hW
 have HN:=qH hN
 have HBW:=qH hB
 clear k0 k1 k2 k3 k4 k5 hGW hWs hB b1 b2 b3 b4 hW hN hG h0 h1 h2
 subst e0 e1 e2
 go_enter Tryz.func29,Tryz.ntmps29
 go_wp2_with fail
 rw [<- HN.out]
 rw [<- HW.out]
 refine C.out.mono ?_
 rintro e w2 ⟨b,rfl,hb2⟩
 replace HBW:=qH (HBW.out.trans (hb2.mono HBW.out.size))
 clear hb2 HW C
 go_wp2_with fail
 go_ret
 exact ⟨b,rfl,HBW.out⟩
theorem smallPiece33 (n:Nat) (G:Nat→Prop) (w:World) (vs:List Value) (x:Pc n) (hR:pcP n w G vs x) (hG:∀ b,G b→b < w.heap.size):Calls Tryz.prog 33 #[.agg vs.toArray] w (BoolC w):=by
 obtain ⟨v0,v1,v2,h0,h1,h2,h3,h4,s0,s1,s2,s3,rfl,hI,hRo,hC,hH,hS⟩:=hR
 obtain ⟨N,hN⟩:=gX (w.heap.size)
 obtain ⟨W,hW⟩:=gX (w.alloc (.cells #[v0,v1,v2,h0,h1,h2,h3,h4,s0,s1,s2,s3] 75))
 have hb:W.heap[N]? = some (.cells #[v0,v1,v2,h0,h1,h2,h3,h4,s0,s1,s2,s3] 75 (0,0)):=by rw [hW,hN]; exact heap_alloc_new w _
 have hB:Below w.heap.size w W:=by rw [hW]; exact (Below.refl _ _).alloc (Nat.le_refl _) _
 have hWs:W.heap.size = N + 1:=by rw [hW,hN]; simp
 have hNw:w.heap.size = N:=hN.symm
 have C29:Hid (Calls Tryz.prog 29 #[v0,v1,v2] W (BoolC W)):=qH (small29 n G W _ _ _ _ _ _ (hI.below (as_ n) hG hB) (hRo.below (be (as_ n)) hG hB) (hC.below (bw (as_ n)) hG hB) (fun b h => Nat.lt_of_lt_of_le (hG b h) hB.size))
 have C19:Hid (∀ X,Below w.heap.size w X→Calls Tryz.prog 19 #[.agg #[s0,s1,s2,s3]] X (BoolC X)):=qH (fun X hX => few19 G X _ _ (Rp.below bq hS hG hX) (fun b h => Nat.lt_of_lt_of_le (hG b h) hX.size))
 have HH:=qH hH
 have HG:=qH hG
 have HW:=qH hW
 have HN:=qH hN
 have HNw:=qH hNw
 have HBW:=qH hB
 have Hb:=qH hb
 clear hI hRo hC hH hS hG hW hN hB hb hNw
 go_enter Tryz.func33,Tryz.ntmps33
 go_upto_region 1 with fail
 rw [<- HW.out,<- HN.out]
 clear HW
 have q0:=aa Hb.out 0
 have q1:=aa Hb.out 1
 have q2:=aa Hb.out 2
 go_wp2_with fail
 refine C29.out.mono ?_
 rintro e w1 ⟨b1,rfl,hb1⟩
 clear C29 q0 q1 q2
 have HB1:=qH (HBW.out.trans (hb1.mono HBW.out.size))
 have Hb1:=qH ((hb1.block _ (ac Hb.out)).trans Hb.out)
 have hs1:N < w1.heap.size:=ac Hb1.out
 clear hb1 HBW Hb
 cases b1
 ·go_wp2_with fail
  go_ret
  exact ⟨_,rfl,HB1.out⟩
 obtain ⟨M,hM⟩:=gX (w1.heap.size)
 obtain ⟨X,hX⟩:=gX ((w1.alloc (.cells #[.int .i64 0,.int .i64 0,.int .i64 0,.string ⟨#[]⟩,h0,h1,h2,h3,h4,.slice none 0 0,.slice none 0 0] 53)).alloc (.cells #[.slice (some ⟨M,0,none⟩) 1 1] 33))
 have b2:X.heap[M]? = some (.cells #[.int .i64 0,.int .i64 0,.int .i64 0,.string ⟨#[]⟩,h0,h1,h2,h3,h4,.slice none 0 0,.slice none 0 0] 53 (0,0)):=by
  rw [hX,hM]
  exact (Below.heap_alloc _ _ _ (by simp)).trans (heap_alloc_new _ _)
 have b3:X.heap[M + 1]? = some (.cells #[.slice (some ⟨M,0,none⟩) 1 1] 33 (0,0)):=by
  rw [hX,hM]
  exact ag _ _ (by simp)
 have hBX:Below w1.heap.size w1 X:=by
  rw [hX]
  exact ((Below.refl _ _).alloc (Nat.le_refl _) _).alloc (by simp) _
 have hXs:X.heap.size = M + 2:=by rw [hX,hM]; simp
 have hH2:hdP X (fun b => G b∨b = M) [h0,h1,h2,h3,h4] x.2.2.2.1:=aE _ _ _ _ _ _ (fun b h => .inl h) (fun b hg hl => (HB1.out.trans (hBX.mono HB1.out.size)).block b hl) HH.out
 have k3:Slv (itP (n + 1)) 11 X (fun b => G b∨b = M) (.slice (some ⟨M,0,none⟩) 1 1) _:=slv_one b2 rfl (.inr rfl) (x:=((0:Int),(0:Int),(0:Int),(⟨#[]⟩:ByteArray),x.2.2.2.1,([]:List (It n)),([]:List (Rw n))))
  ⟨_,_,_,_,_,_,_,rfl,⟨i64_0,i64_0,i64_0,Nat.zero_le _⟩,hH2,Slv.nil _ _,Slv.nil _ _⟩
 have hGX:∀ b,(G b∨b = M)→b < X.heap.size:=by
  rintro b (h | h)
  ·have:=HG.out b h; have:=HB1.out.size; have:=hBX.size; omega
  omega
 have C18:=qH (small18 X X [.slice (some ⟨M,0,none⟩) 1 1] (M + 1) 0 1 (fun j u hu => by rw [Nat.zero_add,aa b3 j]; simpa using hu) (by simp) (by omega) (Below.refl _ _) (by
  intro v hv Y hY
  simp only [List.mem_cons,List.not_mem_nil,or_false] at hv
  subst hv
  exact weight_any (n + 1) _ Y _ _ (k3.below (as_ (n + 1)) hGX hY) (fun b h => Nat.lt_of_lt_of_le (hGX b h) hY.size)))
 have HX:=qH hX
 have HM:=qH hM
 have HBX:=qH hBX
 clear b2 b3 hXs hH2 k3 hGX hX hM hBX
 have q3:=aa Hb1.out 3
 have q4:=aa Hb1.out 4
 have q5:=aa Hb1.out 5
 have q6:=aa Hb1.out 6
 have q7:=aa Hb1.out 7
 go_wp2_with fail
 rw [<- HM.out,<- HX.out]
 refine C18.out.mono ?_
 rintro e w2 ⟨b2,rfl,hb2⟩
 clear C18 q3 q4 q5 q6 q7 HX
 have hb12:=HBX.out.trans (hb2.mono HBX.out.size)
 have HB2:=qH (HB1.out.trans (hb12.mono HB1.out.size))
 have Hb2:=qH ((hb12.block _ hs1).trans Hb1.out)
 clear hb12 hb2 HBX HB1 Hb1
 cases b2
 ·go_wp2_with fail
  go_ret
  exact ⟨_,rfl,HB2.out⟩
 have q8:=aa Hb2.out 8
 have q9:=aa Hb2.out 9
 have q10:=aa Hb2.out 10
 have q11:=aa Hb2.out 11
 go_wp2_with fail
 refine (C19.out _ HB2.out).mono ?_
 rintro e w3 ⟨b3,rfl,hb3⟩
 have HB3:=qH (HB2.out.trans (hb3.mono HB2.out.size))
 clear q8 q9 q10 q11 hb3 C19
 go_wp2_with fail
 go_ret
 exact ⟨_,rfl,HB3.out⟩
end Go.Proofs.YtmhhcfceikcfbaaGreat
