/- The items of a flow checked: what is told; walks: the rows of a table checked. -/
import Derived.Test.YtmhhcfceikcfbaaGreatDeM4
import Derived.Test.YtmhhcfceikcfbaaGreatDeM6
namespace Go.Proofs.YtmhhcfceikcfbaaGreat
open Go.RowKit Go.MapKept
set_option maxRecDepth 100000
set_option maxHeartbeats 4000000
abbrev Plc:=Bool × Bool × Int
def plcV (p:Plc):Value:=.agg #[.bool p.1,.bool p.2.1,.int .i64 p.2.2]
def wrI (x:Int):Int:=IntKind.i64.wrap x
def bC (r:Int × Sta) (f:Sta→Int × Sta):Int × Sta:=if r.1≠0 then r else f r.2
def foldS {β:Type} (f:β→Sta→Int × Sta):List β→Sta→Int × Sta
 | [],s => (0,s)
 | x::l,s => bC (f x s) (foldS f l)
theorem bA {r:Int × Sta} {f:Sta→Int × Sta} (h:r.1≠0):bC r f = r:=if_pos h
theorem bB {r:Int × Sta} {f:Sta→Int × Sta} (h:r.1 = 0):bC r f = f r.2:=if_neg (by rw [h]; decide)
theorem foldS_at {β:Type} {f:β→Sta→Int × Sta} {l:List β} {i:Nat} {y:β} (hy:l[i]? = some y) (s:Sta):foldS f (l.drop i) s = bC (f y s) (foldS f (l.drop (i + 1))):=by
 obtain ⟨q1,q2⟩:=List.getElem?_eq_some_iff.1 hy
 rw [List.drop_eq_getElem_cons q1,q2]
 rfl
theorem foldS_end {β:Type} {f:β→Sta→Int × Sta} {l:List β} {i:Nat} (h:l.length≤i) (s:Sta):foldS f (l.drop i) s = (0,s):=by
 rw [List.drop_eq_nil_of_le h]
 rfl
theorem bindS_assoc (r:Int × Sta) (f g:Sta→Int × Sta):bC (bC r f) g = bC r (fun s => bC (f s) g):=by
 by_cases h:r.1 = 0
 ·rw [bB h,bB h]
 rw [bA h,bA h,bA h]
section
variable {α:Type} (K:CK) (I:List α→Plc→Sta→Int × Sta)
def preS (k id:Int) (p:Plc) (s:Sta):Int × Sta :=
 if k = 3 then (if p.1 = true then (0,s) else (19,s)) else if k = 6 then (if p.2.1 = true then (19,s) else idS id s) else if k = 7 then (if 4≤p.2.2 then (17,s) else idS id s) else if k = 8 then (if inB id 1 1073741824 = true then (0,s) else (18,s)) else (0,s)
def untS (k:Int) (t:ByteArray) (u:Int):Int:=if k = 1 then wrI (wrI (u + 1) + wrI ((countN t).1 - 1)) else wrI (u + 1)
def celS (p:Plc) (x:Int × Hd × List α) (s:Sta):Int × Sta:=bC (idS x.1 s) fun s => bC (hedT 10 K.st K.ls K.rv x.2.1,s) fun s => I x.2.2 p s
def rowE (r:Hd × List (Int × Hd × List α)):Int:=aS [hedT 9 K.st K.ls K.rv r.1,orE (decide (r.2.length = 0)) 11,orE (decide (32 < r.2.length)) 9]
def rowS (p:Plc) (r:Hd × List (Int × Hd × List α)) (s:Sta):Int × Sta:=bC (rowE K r,s) (foldS (celS K I p) r.2)
def rowsS (l:List (Hd × List (Int × Hd × List α))) (p:Plc) (s:Sta):Int × Sta:=if l.length = 0 then (11,s) else if 256 < l.length then (9,s) else foldS (rowS K I p) l s
def frmT (x:ItS α):Int:=formT x.1 x.2.1 x.2.2.1 x.2.2.2.1 x.2.2.2.2.2.1.length x.2.2.2.2.2.2.length
def itmS (x:ItS α) (p:Plc) (s:Sta):Int × Sta :=
 if frmT x≠0 then (frmT x,s) else bC (preS x.1 x.2.2.1 p (s.1,untS x.1 x.2.2.2.1 s.2)) fun s => bC (hedT x.1 K.st K.ls K.rv x.2.2.2.2.1,s) fun s =>
  if x.1 = 6 then I x.2.2.2.2.2.1 (false,true,p.2.2) s else if x.1 = 7 then rowsS K I x.2.2.2.2.2.2 (false,p.2.1,wrI (p.2.2 + 1)) s else (0,s)
end
def itsS (K:CK):(n:Nat)→List (It n)→Plc→Sta→Int × Sta
 | 0 => fun _ _ s => (0,s)
 | n + 1 => fun l p s => foldS (fun x s => itmS K (itsS K n) x p s) l s
def ItsK {α:Type} (R:Rp α) (e:α→List Nat) (K:CK) (I:List α→Plc→Sta→Int × Sta):Prop:=∀ (G:Nat→Prop),(∀ b,G b→b < K.N)→∀ (v:Value) (l:List α) (p:Plc) (s:Sta) (w:World),CkAt K s w→Slv R 11 w G v l→(ak e l).length≤1048576000 →
 Calls Tryz.prog 52 #[.pointer (some ⟨K.c,0,none⟩),v,plcV p] w (CkP K w (I l p s))
theorem headK {K:CK} {s:Sta} {w:World} (h:CkAt K s w) {G:Nat→Prop} {vs:List Value} {x:Hd} (el:Int) (hH:hdP w G vs x) (hG:∀ b,G b→b < w.heap.size):Calls Tryz.prog 50 #[.pointer (some ⟨K.c,0,none⟩),.int .i64 el,.agg vs.toArray] w (RetI (hedT el K.st K.ls K.rv x) w) :=
 head50 G w vs x el hH hG K.c K.m1 K.m2 K.m3 K.m4 K.m5 s.2 K.st K.ls K.rv h.blk h.h1 h.h2 h.h3
theorem CkP.of {K:CK} {w0 w w':World} {r:Int × Sta} {e:Ending} (h:CkP K w r e w') (h0:Ch K.c K.m4 w0 w):CkP K w0 r e w':=⟨h.1,h0.trans h.2.1,h.2.2⟩
theorem hd_shape {w:World} {G:Nat→Prop} {h0 h1 h2 h3 h4:Value} {x:Hd} (h:hdP w G [h0,h1,h2,h3,h4] x) :
  ∃ a0 n0 c0 i1 i2 a3 n3 c3 a4 n4 c4,h0 = .slice a0 n0 c0∧h1 = .int .i64 i1∧h2 = .int .i64 i2∧h3 = .slice a3 n3 c3∧h4 = .slice a4 n4 c4:=by
 obtain ⟨pv,dv,lv,e,_,_,q1,q2,q3⟩:=h
 cases e
 obtain ⟨_,_,rfl,_⟩:=q1.shape
 obtain ⟨_,_,rfl,_⟩:=q2.shape
 obtain ⟨_,_,rfl,_⟩:=q3.shape
 exact ⟨_,_,_,_,_,_,_,_,_,_,_,rfl,rfl,rfl,rfl,rfl⟩
theorem rows192 {α:Type} (R:Rp α) (hRs:Stb R) (e:α→List Nat) (K:CK) (I:List α→Plc→Sta→Int × Sta) (hI:ItsK R e K I) (G:Nat→Prop) (hG:∀ b,G b→b < K.N) (v:Value) (l:List (Hd × List (Int × Hd × List α))) (p:Plc) (s:Sta) (w:World) (hK:CkAt K s w) (hv:Slv (rwP R) 6 w G v l) (hz:(ak (rwE e) l).length≤1048576000):Calls Tryz.prog 192 #[.pointer (some ⟨K.c,0,none⟩),v,plcV p] w (CkP K w (rowsS K I l p s)):=by
 obtain ⟨pb,pn,pt⟩:=p
 obtain ⟨V0,hV0⟩:=gX (rowsS K I l (pb,pn,pt) s)
 rw [<- hV0]
 unfold rowsS at hV0
 obtain ⟨A,cp,rfl,hlc,hcm⟩:=hv.shape
 unfold maxLen at hcm
 unfold plcV
 simp only
 obtain ⟨n,hn⟩:=gX (l.length)
 rw [<- hn] at hv hlc hV0 ⊢
 have HV0:=qH hv
 have HN:=qH hn
 have HG:=qH hG
 have HI:=qH hI
 have HZ:=qH hz
 have HKw:=qH hK
 clear hv hn hG hI hz hK
 obtain ⟨w0,hw0⟩:=gX (w)
 rw [<- hw0] at HV0 HKw ⊢
 clear hw0
 obtain ⟨p,hp⟩:=gX (w0.heap.size)
 obtain ⟨w,hw⟩:=gX (w0.alloc (.cells #[.bool pb,.bool pn,.int .i64 pt] 126))
 have kp:w.heap[p]? = some (.cells #[.bool pb,.bool pn,.int .i64 pt] 126 (0,0)):=by rw [hw]; exact ah _ _ hp
 have bp:Below w0.heap.size w0 w:=by rw [hw]; exact ag _ _
 have HKp:Hid (w.heap[p]? = some (.cells #[.bool pb,.bool pn,.int .i64 pt] 126 (0,0))):=qH kp
 have HBp:=qH bp
 have HWp:=qH hw
 have HDp:=qH hp
 clear hp hw kp bp
 have HK0:=qH (HKw.out.over HBp.out)
 have HC0:Hid (Ch K.c K.m4 w0 w):=qH (Ch.of_below HBp.out)
 have np:Hid (p≠K.c∧p≠K.m4):=qH (by have:=HKw.out.size; rw [HDp.out]; omega)
 have HV:Hid (Slv (rwP R) 6 w G (.slice A n cp) l):=qH (HV0.out.below (bs hRs) HG.out (HBp.out.mono HKw.out.le))
 obtain ⟨V,hV⟩:=gX (V0)
 have HVV:=qH hV
 have HS:=qH hV0
 clear hV hV0
 suffices hmain:Calls Tryz.prog 192 #[.pointer (some ⟨K.c,0,none⟩),.slice A n cp,.agg #[.bool pb,.bool pn,.int .i64 pt]] w0 (CkP K w0 V0) from hmain
 go_enter Tryz.func192,Tryz.ntmps192
 go_upto_region 1 with fail
 rw [<- HWp.out,<- HDp.out]
 clear HWp HDp
 by_cases hn0:n = 0
 case pos =>
  have HF:Hid (CkP K w0 V0 (.returned (.int .i64 11)) w):=qH (by rw [HS.out,if_pos hn0]; exact ⟨rfl,HC0.out,HK0.out⟩)
  have f0:((n:Int) == 0) = true:=by simp [hn0]
  have f1:(n == 0) = true:=by simp [hn0]
  clear HS hn0
  go_wp2_with fail
  go_ret
  exact HF.out
 have f0:((n:Int) == 0) = false:=by simp [hn0]
 have f1:(n == 0) = false:=by simp [hn0]
 by_cases hn1:256 < n
 case pos =>
  have HF:Hid (CkP K w0 V0 (.returned (.int .i64 9)) w):=qH (by rw [HS.out,if_neg hn0,if_pos hn1]; exact ⟨rfl,HC0.out,HK0.out⟩)
  have f2:decide ((256:Int) < (n:Int)) = true:=by simp; omega
  have f3:decide (256 < n) = true:=by simp; omega
  clear HS hn0 hn1
  go_wp2_with fail
  go_ret
  exact HF.out
 have f2:decide ((256:Int) < (n:Int)) = false:=by simp; omega
 have f3:decide (256 < n) = false:=by simp; omega
 have HR:Hid (foldS (rowS K I (pb,pn,pt)) l s = V):=qH (by rw [HVV.out,HS.out,if_neg hn0,if_neg hn1])
 clear HS hn0 hn1
 go_wp2_with fail
 clear f0 f1 f2 f3
 have HK:=HK0
 have HC:=qH (Ch.refl K.c K.m4 w)
 go_loopw [23] (fun iv wr => ∃ i:Nat,iv = .int .i64 (i:Int)∧i≤n∧Hid (∃ s1,CkAt K s1 wr∧foldS (rowS K I (pb,pn,pt)) (l.drop i) s1 = V)∧Hid (Ch K.c K.m4 w wr)) (fun iv _ => n - (intOf iv).toNat)
 case atStart => exact ⟨0,rfl,Nat.zero_le _,qH ⟨_,HK.out,HR.out⟩,HC⟩
 clear HR
 obtain ⟨i,rfl,hin,HT,HCr⟩:=hrel
 clear HC HK
 obtain ⟨s1,hK,hR1⟩:=HT.out
 have HK:=qH hK
 have HR:=qH hR1
 have HC:=HCr
 clear HT hK hR1 HCr
 have HBN:Hid (Below K.N w wr):=qH (HC.out.below HK.out.nc HK.out.nm HK0.out.le)
 by_cases hlt:i < n
 ·have hlt':(i:Int) < (n:Int):=by omega
  obtain ⟨y,hy⟩:∃ y,l[i]? = some y:=⟨_,List.getElem?_eq_getElem (by rw [<- HN.out]; exact hlt)⟩
  obtain ⟨b3,o3,us,hA3,hg3,hbw3,_,hRy,hds⟩:=HV.out.at i y hy
  have hD:=EltS.below (w:=w) hds (HG.out b3 hg3) HBN.out
  obtain ⟨h0,h1,h2,h3,h4,cv,rfl,hH,hCV⟩:=hRy
  obtain ⟨ua0,un0,uc0,ui1,ui2,ua3,un3,uc3,ua4,un4,uc4,rfl,rfl,rfl,rfl,rfl⟩:=hd_shape hH
  obtain ⟨cA,cc,rfl,hcc,hcm⟩:=hCV.shape
  unfold maxLen at hcm
  obtain ⟨cn,hcn⟩:=gX (y.2.length)
  rw [<- hcn] at hCV hD hcc
  have d0:=hD 0 _ rfl
  have d1:=hD 1 _ rfl
  have d2:=hD 2 _ rfl
  have d3:=hD 3 _ rfl
  have d4:=hD 4 _ rfl
  have d5:=hD 5 _ rfl
  simp only [Nat.add_zero] at d0
  have HH:=qH hH
  have HCV:=qH hCV
  have HCN:=qH hcn
  have hzy:(ak (ceE e) y.2).length≤1048576000:=by
   have q1:=mem_le (e:=rwE e) (List.mem_of_getElem? hy)
   have q2:(ak (ceE e) y.2).length≤(rwE e y).length:=by simp only [rwE,seqE,List.length_append]; omega
   have:=HZ.out
   omega
  have HZY:=qH hzy
  replace HR:=qH (show bC (rowE K y,s1) (fun s => bC (foldS (celS K I (pb,pn,pt)) y.2 s) (foldS (rowS K I (pb,pn,pt)) (l.drop (i + 1)))) = V by
   rw [<- HR.out,foldS_at hy]
   show _ = bC (bC (rowE K y,s1) _) _
   rw [bindS_assoc])
  obtain ⟨E0,hE0⟩:=gX (hedT 9 K.st K.ls K.rv y.1)
  obtain ⟨q1,hq1⟩:=gX (decide (y.2.length = 0))
  obtain ⟨q2,hq2⟩:=gX (decide (32 < y.2.length))
  obtain ⟨E1,hE1⟩:=gX (orE q1 11)
  obtain ⟨E2,hE2⟩:=gX (orE q2 9)
  have hRE:rowE K y = aS [E0,E1,E2]:=by unfold rowE; rw [hE1,hE2,hq1,hq2,hE0]
  have C51:Hid (∀ W,Calls Tryz.prog 51 #[.bool q1,.int .i64 11] W fun e w' => e = .returned (.int .i64 E1)∧W = w'):=qH (fun W => by rw [hE1]; exact bo q1 11 W)
  have C52:Hid (∀ W,Calls Tryz.prog 51 #[.bool q2,.int .i64 9] W fun e w' => e = .returned (.int .i64 E2)∧W = w'):=qH (fun W => by rw [hE2]; exact bo q2 9 W)
  rw [hRE] at HR
  rw [<- hcn] at hq1 hq2
  have fq1:((cn:Int) == 0) = q1:=by rw [hq1]; by_cases h:cn = 0 <;> simp [h]
  have fq1':(cn == 0) = q1:=by rw [hq1]; by_cases h:cn = 0 <;> simp [h]
  have fq2:decide ((32:Int) < (cn:Int)) = q2:=by rw [hq2]; by_cases h:32 < cn <;> simp [h] <;> omega
  have fq2':decide (32 < cn) = q2:=hq2.symm
  clear hds hy hD hCV hH hcn hzy hE1 hE2 hq1 hq2 hRE
  subst hA3
  obtain ⟨r,hr⟩:=gX (wr.heap.size)
  obtain ⟨w1,hw1⟩:=gX (wr.alloc (.cells #[.slice ua0 un0 uc0,.int .i64 ui1,.int .i64 ui2,.slice ua3 un3 uc3,.slice ua4 un4 uc4,.slice cA cn cc] 156))
  have kr:w1.heap[r]? = some (.cells #[.slice ua0 un0 uc0,.int .i64 ui1,.int .i64 ui2,.slice ua3 un3 uc3,.slice ua4 un4 uc4,.slice cA cn cc] 156 (0,0)):=by rw [hw1]; exact ah _ _ hr
  have br:Below wr.heap.size wr w1:=by rw [hw1]; exact ag _ _
  have HKr:Hid (w1.heap[r]? = some (.cells #[.slice ua0 un0 uc0,.int .i64 ui1,.int .i64 ui2,.slice ua3 un3 uc3,.slice ua4 un4 uc4,.slice cA cn cc] 156 (0,0))):=qH kr
  have HBr:=qH br
  have HWr:=qH hw1
  have HDr:=qH hr
  clear hr hw1 kr br
  have HK1:=qH (HK.out.over HBr.out)
  have HC1:Hid (Ch K.c K.m4 w w1):=qH (HC.out.trans (Ch.of_below HBr.out))
  have nr:Hid (r≠K.c∧r≠K.m4):=qH (by have:=HK.out.size; rw [HDr.out]; omega)
  have C50:Hid (∀ W,Below w1.heap.size w1 W→Calls Tryz.prog 50 #[.pointer (some ⟨K.c,0,none⟩),.int .i64 9,.agg #[.slice ua0 un0 uc0,.int .i64 ui1,.int .i64 ui2,.slice ua3 un3 uc3,.slice ua4 un4 uc4]] W (RetI E0 W)):=qH (fun W hW => by
   rw [hE0]
   have hk:=HK1.out.over hW
   exact headK hk 9 (Rp.below ay HH.out HG.out ((HC1.out.trans (Ch.of_below hW)).below hk.nc hk.nm HK0.out.le)) (fun b h => Nat.lt_of_lt_of_le (HG.out b h) hk.le))
  clear HK HC hE0
  go_upto_region 8 with fail
  rw [<- HWr.out,<- HDr.out]
  clear HWr HDr d0 d1 d2 d3 d4 d5
  have kr:=HKr.out
  have HB:=qH (Below.refl w1.heap.size w1)
  replace kr:w1.drew.heap[r]? = some (.cells #[.slice ua0 un0 uc0,.int .i64 ui1,.int .i64 ui2,.slice ua3 un3 uc3,.slice ua4 un4 uc4,.slice cA cn cc] 156 (0,0)):=kr
  replace HB:=qH HB.out.drew
  refine ao (S:=fun w' => w'.heap[r]? = some (.cells #[.slice ua0 un0 uc0,.int .i64 ui1,.int .i64 ui2,.slice ua3 un3 uc3,.slice ua4 un4 uc4,.slice cA cn cc] 156 (0,0))) [(true,0),(true,1),(true,2),(true,4),(true,5),(true,6),(true,7),(true,9),(true,10),(true,11),(true,12),(false,3),(false,8),(false,13),(false,14),(false,15),(true,16)] (by kernel_rfl) (by kernel_rfl) kr ?_
  simp only [aO,List.getElem?_cons_succ,List.getElem?_cons_zero]
  refine sq2p (K.c) 0 ?_
  refine sq2p r 0 ?_
  refine sq2 (.agg #[.slice ua0 un0 uc0,.int .i64 ui1,.int .i64 ui2,.slice ua3 un3 uc3,.slice ua4 un4 uc4]) ?_ (fun w' hS => by have q0:=aa hS 0; have q1:=aa hS 1; have q2:=aa hS 2; have q3:=aa hS 3; have q4:=aa hS 4; go_simp)
  refine sq2p r 5 ?_
  refine sq2 (.slice cA cn cc) ?_ (fun w' hS => by have q0:=aa hS 5; go_simp)
  refine sq2i (cn:Int) ?_
  refine sq2b q1 ?_
  refine sq2p r 5 ?_
  refine sq2 (.slice cA cn cc) ?_ (fun w' hS => by have q0:=aa hS 5; go_simp)
  refine sq2i (cn:Int) ?_
  refine sq2b q2 ?_
  refine af 50 #[.pointer (some ⟨K.c,0,none⟩),.int .i64 9,.agg #[.slice ua0 un0 uc0,.int .i64 ui1,.int .i64 ui2,.slice ua3 un3 uc3,.slice ua4 un4 uc4]] (by go_simp) ?_
  refine Calls.mono (C50.out _ HB.out) ?_
  rintro e wp1 ⟨rfl,hbp1⟩
  replace kr:=ai kr hbp1
  replace HB:=qH (HB.out.trans (hbp1.mono HB.out.size))
  clear hbp1
  refine ⟨_,rfl,kr,?_⟩
  simp only [Act.put,PutA,PutZ,PutS]
  refine af 51 #[.bool q1,.int .i64 11] (by go_simp) ?_
  refine Calls.mono (C51.out _) ?_
  rintro e wp2 ⟨rfl,rfl⟩
  refine ⟨_,rfl,kr,?_⟩
  simp only [Act.put,PutA,PutZ,PutS]
  refine af 51 #[.bool q2,.int .i64 9] (by go_simp) ?_
  refine Calls.mono (C52.out _) ?_
  rintro e wp3 ⟨rfl,rfl⟩
  refine ⟨_,rfl,kr,?_⟩
  simp only [Act.put,PutA,PutZ,PutS]
  refine au (.slice (some ⟨wp1.heap.size,0,none⟩) 3 3) (wp1.alloc (.cells #[.int .i64 E0,.int .i64 E1,.int .i64 E2] 23)) (by go_simp) ?_ ?_
  ·exact ai kr (ag wp1 _)
  have hnp4:(wp1.alloc (.cells #[.int .i64 E0,.int .i64 E1,.int .i64 E2] 23)).heap[wp1.heap.size]? = some (.cells #[.int .i64 E0,.int .i64 E1,.int .i64 E2] 23 (0,0)):=heap_alloc_new _ _
  have hbp4:=ag wp1 (.cells #[.int .i64 E0,.int .i64 E1,.int .i64 E2] 23)
  obtain ⟨wp4,hwp4⟩:=gX (wp1.alloc (.cells #[.int .i64 E0,.int .i64 E1,.int .i64 E2] 23))
  obtain ⟨gp4,hgp4⟩:=gX (wp1.heap.size)
  rw [<- hwp4] at hnp4 hbp4 ⊢
  rw [<- hgp4] at hnp4 ⊢
  replace kr:=ai kr hbp4
  replace HB:=qH (HB.out.trans (hbp4.mono HB.out.size))
  clear hwp4 hgp4 hbp4
  simp only [Act.put,PutA,PutZ,PutS]
  refine af 46 #[.slice (some ⟨gp4,0,none⟩) 3 3] (by go_simp) ?_
  refine Calls.mono (bu [E0,E1,E2] hnp4 rfl (by simp)) ?_
  rintro e wp5 ⟨rfl,rfl⟩
  refine ⟨_,rfl,kr,?_⟩
  simp only [Act.put,PutA,PutZ,PutS]
  refine sq2i (aS [E0,E1,E2]) ?_
  refine ad ?_
  obtain ⟨ER,hER⟩:=gX (aS [E0,E1,E2])
  rw [<- hER] at HR ⊢
  clear hER
  obtain ⟨wy,hwy⟩:=gX (wp4)
  rw [<- hwy] at HB kr ⊢
  have HK:=qH (HK1.out.over HB.out)
  have HC:Hid (Ch K.c K.m4 w wy):=qH (HC1.out.trans (Ch.of_below HB.out))
  have Hkr:=qH kr
  clear hwy kr HB HK1 HC1 HBr HKr C50 C51 C52
  by_cases hr1:ER = 0
  case neg =>
   have br:(ER == 0) = false:=by rw [beq_eq_false_iff_ne]; exact hr1
   have HF:=qH (show CkP K w V (.returned (.int .i64 ER)) wy from by rw [<- HR.out,bA hr1]; exact ⟨rfl,HC.out,HK.out⟩)
   clear HR hr1 HK HC Hkr
   go_wp2_with fail
   go_ret
   exact HVV.out ▸ CkP.of HF.out HC0.out
  subst hr1
  rw [bB (r:=((0:Int),s1)) rfl] at HR
  have z5:=aa Hkr.out 5
  go_wp2_with fail
  clear z5 Hkr
  go_loopw [49] (fun iv wr2 => ∃ j:Nat,iv = .int .i64 (j:Int)∧j≤cn∧Hid (∃ s2,CkAt K s2 wr2∧bC (foldS (celS K I (pb,pn,pt)) (y.2.drop j) s2) (foldS (rowS K I (pb,pn,pt)) (l.drop (i + 1))) = V)∧Hid (Ch K.c K.m4 w wr2)) (fun iv _ => cn - (intOf iv).toNat)
  case atStart => exact ⟨0,rfl,Nat.zero_le _,qH ⟨_,HK.out,HR.out⟩,HC⟩
  clear HR HBN
  obtain ⟨j,rfl,hjn,HT,HCr⟩:=hrel
  clear HC HK
  obtain ⟨s2,hK,hR2⟩:=HT.out
  have HK:=qH hK
  have HR:=qH hR2
  have HC:=HCr
  clear HT hK hR2 HCr
  have HBN:Hid (Below K.N w wr):=qH (HC.out.below HK.out.nc HK.out.nm HK0.out.le)
  by_cases hlt:j < cn
  ·have hlt':(j:Int) < (cn:Int):=by omega
   obtain ⟨x,hx⟩:∃ x,y.2[j]? = some x:=⟨_,List.getElem?_eq_getElem (by rw [<- HCN.out]; exact hlt)⟩
   obtain ⟨b4,o4,us,hA4,hg4,hbw4,_,hRx,hds⟩:=HCV.out.at j x hx
   have hD:=EltS.below (w:=w) hds (HG.out b4 hg4) HBN.out
   obtain ⟨k0,k1,k2,k3,k4,fv,rfl,_,hH,hF⟩:=hRx
   obtain ⟨va0,vn0,vc0,vi1,vi2,va3,vn3,vc3,va4,vn4,vc4,rfl,rfl,rfl,rfl,rfl⟩:=hd_shape hH
   obtain ⟨fA,fc,rfl,_,_⟩:=hF.shape
   obtain ⟨fn,hfn⟩:=gX (x.2.2.length)
   rw [<- hfn] at hF hD
   obtain ⟨x0,hx0⟩:=gX (x.1)
   rw [<- hx0] at hD
   have d0:=hD 0 _ rfl
   have d1:=hD 1 _ rfl
   have d2:=hD 2 _ rfl
   have d3:=hD 3 _ rfl
   have d4:=hD 4 _ rfl
   have d5:=hD 5 _ rfl
   have d6:=hD 6 _ rfl
   simp only [Nat.add_zero] at d0
   have HH:=qH hH
   have HFV:=qH hF
   have hzx:(ak e x.2.2).length≤1048576000:=by
    have q1:=mem_le (e:=ceE e) (List.mem_of_getElem? hx)
    have q2:(ak e x.2.2).length≤(ceE e x).length:=by simp only [ceE,seqE,List.length_append]; omega
    have:=HZY.out
    omega
   have HZX:=qH hzx
   replace HR:=qH (show bC (idS x0 s2) (fun s => bC (bC (hedT 10 K.st K.ls K.rv x.2.1,s) (fun s => I x.2.2 (pb,pn,pt) s)) (fun s => bC (foldS (celS K I (pb,pn,pt)) (y.2.drop (j + 1)) s) (foldS (rowS K I (pb,pn,pt)) (l.drop (i + 1))))) = V by
    rw [<- HR.out,foldS_at hx,bindS_assoc,hx0]
    show _ = bC (bC (idS x.1 s2) _) _
    rw [bindS_assoc])
   clear hds hx hD hF hH hfn hzx hx0
   subst hA4
   obtain ⟨cb,hcb⟩:=gX (wr.heap.size)
   obtain ⟨w3,hw3⟩:=gX (wr.alloc (.cells #[.int .i64 x0,.slice va0 vn0 vc0,.int .i64 vi1,.int .i64 vi2,.slice va3 vn3 vc3,.slice va4 vn4 vc4,.slice fA fn fc] 174))
   have kcb:w3.heap[cb]? = some (.cells #[.int .i64 x0,.slice va0 vn0 vc0,.int .i64 vi1,.int .i64 vi2,.slice va3 vn3 vc3,.slice va4 vn4 vc4,.slice fA fn fc] 174 (0,0)):=by rw [hw3]; exact ah _ _ hcb
   have bcb:Below wr.heap.size wr w3:=by rw [hw3]; exact ag _ _
   have HKcb:Hid (w3.heap[cb]? = some (.cells #[.int .i64 x0,.slice va0 vn0 vc0,.int .i64 vi1,.int .i64 vi2,.slice va3 vn3 vc3,.slice va4 vn4 vc4,.slice fA fn fc] 174 (0,0))):=qH kcb
   have HBcb:=qH bcb
   have HWcb:=qH hw3
   have HDcb:=qH hcb
   clear hcb hw3 kcb bcb
   have HK3:=qH (HK.out.over HBcb.out)
   have HC3:Hid (Ch K.c K.m4 w w3):=qH (HC.out.trans (Ch.of_below HBcb.out))
   have ncb:Hid (cb≠K.c∧cb≠K.m4):=qH (by have:=HK.out.size; rw [HDcb.out]; omega)
   have C1:=qH (id191 K x0 s2 w3 HK3.out)
   clear HK HC
   go_upto_region 14 with fail
   rw [<- HWcb.out,<- HDcb.out]
   clear HWcb HDcb d0 d1 d2 d3 d4 d5 d6
   have z0:=aa HKcb.out 0
   go_wp2_with fail
   refine C1.out.mono ?_
   rintro e1 w4 hP
   obtain ⟨rfl,hch,hck⟩:=hP
   clear z0 C1
   obtain ⟨r1,hr1⟩:=gX (idS x0 s2)
   rw [<- hr1] at HR hck ⊢
   have HC4:=qH (HC3.out.trans hch)
   have HK4:=qH hck
   have HKcb4:=qH (hch.blk HKcb.out ncb.out.1 ncb.out.2)
   clear hr1 hch hck HC3 HK3 HKcb HBcb
   obtain ⟨e1,s3⟩:=r1
   simp only at HK4 ⊢
   by_cases he1:e1 = 0
   case neg =>
    have f1:(e1 == 0) = false:=by rw [beq_eq_false_iff_ne]; exact he1
    have HF:=qH (show CkP K w V (.returned (.int .i64 e1)) w4 from by rw [<- HR.out,bA he1]; exact ⟨rfl,HC4.out,HK4.out⟩)
    clear HR he1 HK4 HC4 HKcb4
    go_wp2_with fail
    go_ret
    exact HVV.out ▸ CkP.of HF.out HC0.out
   subst he1
   replace HR:=qH (show bC (hedT 10 K.st K.ls K.rv x.2.1,s3) (fun s => bC (I x.2.2 (pb,pn,pt) s) (fun s => bC (foldS (celS K I (pb,pn,pt)) (y.2.drop (j + 1)) s) (foldS (rowS K I (pb,pn,pt)) (l.drop (i + 1))))) = V by
    rw [<- HR.out]
    rw [bB (r:=(0,s3)) rfl,bindS_assoc])
   obtain ⟨E,hE⟩:=gX (hedT 10 K.st K.ls K.rv x.2.1)
   rw [<- hE] at HR
   have HBN4:Hid (Below K.N w w4):=qH (HC4.out.below HK4.out.nc HK4.out.nm HK0.out.le)
   have C2:Hid (Calls Tryz.prog 50 #[.pointer (some ⟨K.c,0,none⟩),.int .i64 10,.agg #[.slice va0 vn0 vc0,.int .i64 vi1,.int .i64 vi2,.slice va3 vn3 vc3,.slice va4 vn4 vc4]] w4 (RetI E w4)):=qH (by
    rw [hE]
    exact headK HK4.out 10 (Rp.below ay HH.out HG.out HBN4.out) (fun b h => Nat.lt_of_lt_of_le (HG.out b h) HK4.out.le))
   clear hE
   have z1:=aa HKcb4.out 1
   have z2:=aa HKcb4.out 2
   have z3:=aa HKcb4.out 3
   have z4:=aa HKcb4.out 4
   have z5:=aa HKcb4.out 5
   go_wp2_with fail
   refine C2.out.mono ?_
   rintro e2 w5 ⟨rfl,hb5⟩
   have HC5:=qH (HC4.out.trans (Ch.of_below hb5))
   have HK5:=qH (HK4.out.over hb5)
   have HKcb5:=qH (ai HKcb4.out hb5)
   clear hb5 z1 z2 z3 z4 z5 C2 HC4 HK4 HKcb4 HBN4
   by_cases he2:E = 0
   case neg =>
    have f2:(E == 0) = false:=by rw [beq_eq_false_iff_ne]; exact he2
    have HF:=qH (show CkP K w V (.returned (.int .i64 E)) w5 from by rw [<- HR.out,bA he2]; exact ⟨rfl,HC5.out,HK5.out⟩)
    clear HR he2 HK5 HC5 HKcb5
    go_wp2_with fail
    go_ret
    exact HVV.out ▸ CkP.of HF.out HC0.out
   subst he2
   rw [bB (r:=((0:Int),s3)) rfl] at HR
   have HBN5:Hid (Below K.N w w5):=qH (HC5.out.below HK5.out.nc HK5.out.nm HK0.out.le)
   have C3:=qH (HI.out G HG.out _ _ (pb,pn,pt) s3 w5 HK5.out (HFV.out.below hRs HG.out HBN5.out) HZX.out)
   have z6:=aa HKcb5.out 6
   have kp:=HC5.out.blk HKp.out np.out.1 np.out.2
   have p0:=aa kp 0
   have p1:=aa kp 1
   have p2:=aa kp 2
   clear kp
   unfold plcV at C3
   simp only at C3
   go_wp2_with fail
   refine C3.out.mono ?_
   rintro e3 w6 hP
   obtain ⟨rfl,hch,hck⟩:=hP
   obtain ⟨r3,hr3⟩:=gX (I x.2.2 (pb,pn,pt) s3)
   try simp only at HR
   rw [<- hr3] at HR hck ⊢
   have HC6:=qH (HC5.out.trans hch)
   have HK6:=qH hck
   clear hr3 hch hck HC5 HK5 HKcb5 C3 z6 p0 p1 p2
   obtain ⟨e3,s4⟩:=r3
   simp only at HK6 ⊢
   by_cases he3:e3 = 0
   case neg =>
    have f3:(e3 == 0) = false:=by rw [beq_eq_false_iff_ne]; exact he3
    have HF:=qH (show CkP K w V (.returned (.int .i64 e3)) w6 from by rw [<- HR.out,bA he3]; exact ⟨rfl,HC6.out,HK6.out⟩)
    clear HR he3 HK6 HC6
    go_wp2_with fail
    go_ret
    exact HVV.out ▸ CkP.of HF.out HC0.out
   subst he3
   have HRn:=qH (show bC (foldS (celS K I (pb,pn,pt)) (y.2.drop (j + 1)) s4) (foldS (rowS K I (pb,pn,pt)) (l.drop (i + 1))) = V from by rw [<- HR.out,bB (r:=((0:Int),s4)) rfl])
   clear HR HBN
   go_wp2_with fail
   exact ⟨⟨j + 1,by go_num,by omega,qH ⟨_,HK6.out,HRn.out⟩,HC6⟩,by simp [intOf]; omega⟩
  have hlt':¬ (j:Int) < (cn:Int):=by omega
  have HRn:=qH (show foldS (rowS K I (pb,pn,pt)) (l.drop (i + 1)) s2 = V by rw [<- HR.out,foldS_end (l:=y.2) (by rw [<- HCN.out]; omega),bB (r:=((0:Int),s2)) rfl])
  clear HR HBN
  go_wp2_with fail
  exact ⟨⟨i + 1,by go_num,by omega,qH ⟨_,HK.out,HRn.out⟩,HC⟩,by simp [intOf]; omega⟩
 have hlt':¬ (i:Int) < (n:Int):=by omega
 have HF:=qH (show CkP K w V (.returned (.int .i64 0)) wr by rw [<- HR.out,foldS_end (by rw [<- HN.out]; omega)]; exact ⟨rfl,HC.out,HK.out⟩)
 clear HR HC HK HBN
 go_wp2_with fail
 go_ret
 exact HVV.out ▸ CkP.of HF.out HC0.out
end Go.Proofs.YtmhhcfceikcfbaaGreat
