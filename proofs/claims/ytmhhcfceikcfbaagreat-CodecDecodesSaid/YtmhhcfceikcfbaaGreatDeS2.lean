/- Walks: a style's own error. -/
import Derived.Test.YtmhhcfceikcfbaaGreatDeV2
namespace Go.Proofs.YtmhhcfceikcfbaaGreat
open Go.RowKit
set_option maxRecDepth 100000
set_option maxHeartbeats 4000000
def idP (id:Int) (s:Sty):Bool:=decide (s.1 = id)
def nmP (kd:Int) (nm:ByteArray) (s:Sty):Bool:=decide (s.2.1 = kd) && eqS s.2.2.1 nm
def FndC (r:Int) (w:World) (e:Ending) (w':World):Prop:=e = .returned (.tuple #[.int .i64 (if r < 0 then 0 else r),.bool (decide (0≤r))])∧Below w.heap.size w w'
theorem Slv.take {α:Type} {R:Rp α} {sz:Nat} {w:World} {G:Nat→Prop} {A:Option Addr} {n c:Nat} {l:List α} (h:Slv R sz w G (.slice A n c) l) (k:Nat) (hk:k≤l.length):Slv R sz w G (.slice A k c) (l.take k):=by
 obtain ⟨A',c',hv,h1,h2,h3⟩:=h
 injection hv with e1 e2 e3
 subst e1 e2 e3
 have hl:(l.take k).length = k:=by rw [List.length_take]; omega
 refine ⟨A,c,by rw [hl],by omega,h2,fun hn => ?_⟩
 obtain ⟨b,o,rfl,hg,hb,hc⟩:=h3 (by omega)
 refine ⟨b,o,rfl,hg,hb,fun i x hx => hc i x ?_⟩
 rw [List.getElem?_take] at hx
 split at hx
 ·exact hx
 cases hx
theorem fnd203 (G:Nat→Prop) (w:World) (v:Value) (l:List Sty) (id:Int) (hv:Slv styP 6 w G v l) (hG:∀ b,G b→b < w.heap.size):Calls Tryz.prog 203 #[v,.int .i64 id] w (FndC (idxP (idP id) l) w):=by
 obtain ⟨r,hr⟩:=gX (idxP (idP id) l)
 obtain ⟨N,hN⟩:=gX (w.heap.size)
 obtain ⟨W,hW⟩:=gX ((w.alloc (.cells #[.int .i64 id] 3)))
 have hB:Below w.heap.size w W:=by rw [hW]; exact (Below.refl _ _).alloc (Nat.le_refl _) _
 have c0:W.cell? ⟨N,0,none⟩ = some (.int .i64 id):=by
  have h:W.heap[N]? = some (.cells #[.int .i64 id] 3 (0,0)):=by rw [hW,hN]; exact heap_alloc_new _ _
  exact aa h 0
 have C:=qH (idx_clo213 G W v l id N c0 (hv.below aF hG hB))
 change Hid (Calls _ _ _ _ (RetI (idxP (idP id) l) W)) at C
 rw [<- hr]
 rw [<- hr] at C
 obtain ⟨A,cp,rfl,_,_⟩:=hv.shape
 have HW:=qH hW
 have HN:=qH hN
 have HB:=qH hB
 clear hv hW hN hr hB c0 hG
 obtain ⟨n,hn⟩:=gX (l.length)
 rw [<- hn] at C ⊢
 clear hn
 go_enter Tryz.func203,Tryz.ntmps203
 go_wp2_with fail
 rw [<- HW.out]
 rw [<- HN.out]
 refine C.out.mono ?_
 rintro e w1 ⟨rfl,hb1⟩
 have HB1:=qH (HB.out.trans (hb1.mono HB.out.size))
 clear hb1 C HW HB
 by_cases h:r < 0
 ·have d1:decide (0≤r) = false:=by simp; omega
  have d2:¬ 0≤r:=by omega
  go_wp2_with fail
  go_ret2
  unfold FndC
  rw [if_pos h,d1]
  exact ⟨rfl,HB1.out⟩
 have d1:decide (0≤r) = true:=by simp; omega
 have d2:0≤r:=by omega
 go_wp2_with fail
 go_ret2
 unfold FndC
 rw [if_neg (by omega),d1]
 exact ⟨rfl,HB1.out⟩
theorem fnd201 (G:Nat→Prop) (w:World) (v:Value) (l:List Sty) (kd:Int) (nm:ByteArray) (hv:Slv styP 6 w G v l) (hG:∀ b,G b→b < w.heap.size):Calls Tryz.prog 201 #[v,.int .i64 kd,.string nm] w (FndC (idxP (nmP kd nm) l) w):=by
 obtain ⟨r,hr⟩:=gX (idxP (nmP kd nm) l)
 obtain ⟨N,hN⟩:=gX (w.heap.size)
 obtain ⟨W,hW⟩:=gX (((w.alloc (.cells #[.int .i64 kd] 3)).alloc (.cells #[.string nm] 9)))
 have hB:Below w.heap.size w W:=by rw [hW]; exact ((Below.refl _ _).alloc (Nat.le_refl _) _).alloc (by simp) _
 have c0:W.cell? ⟨N,0,none⟩ = some (.int .i64 kd):=by
  have h:W.heap[N]? = some (.cells #[.int .i64 kd] 3 (0,0)):=by rw [hW,hN]; exact (Below.heap_alloc _ _ _ (by simp)).trans (heap_alloc_new _ _)
  exact aa h 0
 have c1:W.cell? ⟨N + 1,0,none⟩ = some (.string nm):=by
  have h:W.heap[N + 1]? = some (.cells #[.string nm] 9 (0,0)):=by rw [hW,hN]; exact ah _ _ (by simp)
  exact aa h 0
 have C:=qH (idx_clo212 G W v l kd nm N (N + 1) c0 c1 (hv.below aF hG hB))
 change Hid (Calls _ _ _ _ (RetI (idxP (nmP kd nm) l) W)) at C
 rw [<- hr]
 rw [<- hr] at C
 obtain ⟨A,cp,rfl,_,_⟩:=hv.shape
 have HW:=qH hW
 have HN:=qH hN
 have HB:=qH hB
 clear hv hW hN hr hB c0 c1 hG
 obtain ⟨n,hn⟩:=gX (l.length)
 rw [<- hn] at C ⊢
 clear hn
 go_enter Tryz.func201,Tryz.ntmps201
 go_wp2_with fail
 rw [<- HW.out]
 rw [<- HN.out]
 refine C.out.mono ?_
 rintro e w1 ⟨rfl,hb1⟩
 have HB1:=qH (HB.out.trans (hb1.mono HB.out.size))
 clear hb1 C HW HB
 by_cases h:r < 0
 ·have d1:decide (0≤r) = false:=by simp; omega
  have d2:¬ 0≤r:=by omega
  go_wp2_with fail
  go_ret2
  unfold FndC
  rw [if_pos h,d1]
  exact ⟨rfl,HB1.out⟩
 have d1:decide (0≤r) = true:=by simp; omega
 have d2:0≤r:=by omega
 go_wp2_with fail
 go_ret2
 unfold FndC
 rw [if_neg (by omega),d1]
 exact ⟨rfl,HB1.out⟩
def isB (l:List Sty) (kd id:Int):Bool:=match l.findIdx? (idP id) with
 | some i => decide ((l[i]?).map (fun s => s.2.1) = some kd)
 | none => false
theorem is174 (G:Nat→Prop) (w:World) (v:Value) (l:List Sty) (kd id:Int) (hv:Slv styP 6 w G v l) (hG:∀ b,G b→b < w.heap.size):Calls Tryz.prog 174 #[v,.int .i64 kd,.int .i64 id] w (RetB (isB l kd id) w):=by
 obtain ⟨V,hV⟩:=gX (isB l kd id)
 rw [<- hV]
 have C:=qH (fnd203 G w v l id hv hG)
 obtain ⟨A,cp,rfl,_,hm1⟩:=hv.shape
 have HV:=qH hv
 obtain ⟨n,hn⟩:=gX (l.length)
 rw [<- hn] at C ⊢
 have HN:=qH hn
 clear hv hn hm1 hG
 unfold isB at hV
 unfold idxP at C
 cases hf:l.findIdx? (idP id) with
 | none =>
  rw [hf] at hV C
  have HVV:=qH hV
  have C':Hid (Calls Tryz.prog 203 #[.slice A n cp,.int .i64 id] w fun e w' => e = .returned (.tuple #[.int .i64 0,.bool false])∧Below w.heap.size w w'):=C
  clear hf hV C
  go_enter Tryz.func174,Tryz.ntmps174
  go_wp2_with fail
  refine C'.out.mono ?_
  rintro e w1 ⟨rfl,hb1⟩
  have HB1:=qH hb1
  clear hb1 C'
  go_wp2_with fail
  go_ret
  exact ⟨by rw [HVV.out]; rfl,HB1.out⟩
 | some i =>
  rw [hf] at hV C
  obtain ⟨hi,hrest⟩:=List.findIdx?_eq_some_iff_getElem.1 hf
  obtain ⟨x,hx⟩:∃ x,l[i]? = some x:=⟨_,List.getElem?_eq_getElem hi⟩
  simp only at hV
  rw [hx] at hV
  obtain ⟨b1,o1,vs,rfl,_,hbw,_,hRx,hcs⟩:=HV.out.at i x hx
  have hE:EltS b1 (o1 + i * 6) vs w:=hcs
  obtain ⟨x0,x1,x2,x3,x4,x5⟩:=x
  obtain ⟨pv,rfl,_,_⟩:=hRx
  have hV:V = decide (x1 = kd):=by rw [hV]; simp
  have HVV:=qH hV
  have C':Hid (Calls Tryz.prog 203 #[.slice (some ⟨b1,o1,none⟩) n cp,.int .i64 id] w fun e w' => e = .returned (.tuple #[.int .i64 (i:Int),.bool true])∧Below w.heap.size w w'):=qH (by
   have h:=C.out
   unfold FndC at h
   simp only at h
   rw [if_neg (by omega),show decide (0≤(i:Int)) = true by simp] at h
   exact h)
  have hlt':(i:Int) < (n:Int):=by have:=HN.out; omega
  have HE:=qH hE
  clear hf hV C hrest hx hcs hE
  go_enter Tryz.func174,Tryz.ntmps174
  go_wp2_with fail
  refine C'.out.mono ?_
  rintro e w1 ⟨rfl,hb1⟩
  have HB1:=qH hb1
  have e1:=(HE.out.below hbw hb1) 1 _ rfl
  clear hb1 C' HE
  by_cases h:x1 = kd
  ·have HF:=qH (show V = true by rw [HVV.out]; simpa using h)
   subst h
   clear HVV
   go_wp2_with fail
   go_ret
   exact ⟨by rw [HF.out]; rfl,HB1.out⟩
  have b1:(x1 == kd) = false:=by rw [beq_eq_false_iff_ne]; exact h
  have HF:=qH (show V = false by rw [HVV.out]; simpa using h)
  clear HVV h
  go_wp2_with fail
  go_ret
  exact ⟨by rw [HF.out]; rfl,HB1.out⟩
def prevS (l:List Sty) (i:Nat):Option Int:=if i = 0 then none else (l[i - 1]?).map Prod.fst
theorem prevS_succ {l:List Sty} {i:Nat} {y:Sty} (hi:0 < i) (hy:l[i - 1]? = some y):prevS l i = some y.1:=by
 unfold prevS
 rw [if_neg (by omega),hy]
 rfl
def prevLt (o:Option Int) (x:Int):Bool:=match o with
 | some y => decide (x < y)
 | none => false
def ownS (l:List Sty) (i:Nat) (s:Sty):Int :=
 if s.1 < 1∨1073741824 < s.1 then 18 else if prevS l i = some s.1 then 7 else if prevLt (prevS l i) s.1 = true then 6 else if s.2.1≠1∧s.2.1≠2 then 3 else
 if stNameB s.2.2.1 = false then 13 else if 0≤idxP (nmP s.2.1 s.2.2.1) (l.take i) then 7 else if s.2.2.2.2.2.any (fun p => decide (p.1 = 20∨p.1 = 1)) then 4 else propC (if s.2.1 = 1 then 2 else 1) s.2.2.2.2.2
def ownC (l:List Sty) (i:Nat):Int:=match l[i]? with
 | some s => ownS l i s
 | none => 0
theorem own173 (G:Nat→Prop) (w:World) (v:Value) (l:List Sty) (i:Nat) (hi:i < l.length) (hv:Slv styP 6 w G v l) (hG:∀ b,G b→b < w.heap.size):Calls Tryz.prog 173 #[v,.int .i64 (i:Int)] w (RetI (ownC l i) w):=by
 obtain ⟨V,hV⟩:=gX (ownC l i)
 rw [<- hV]
 obtain ⟨A,cp,rfl,hlc,hm1⟩:=hv.shape
 have hicp:i≤cp:=by omega
 have hicp2:¬ cp < i:=by omega
 obtain ⟨n,hn⟩:=gX (l.length)
 have hnn:n≤9223372036854775807:=by unfold maxLen at hm1; omega
 have HV:=qH hv
 have HG:=qH hG
 rw [<- hn]
 have HN:=qH hn
 have hlt:i < n:=by omega
 have hlt':(i:Int) < (n:Int):=by omega
 obtain ⟨x,hx⟩:∃ x,l[i]? = some x:=⟨_,List.getElem?_eq_getElem hi⟩
 have HS0:=qH (show V = ownS l i x by rw [hV]; unfold ownC; rw [hx])
 obtain ⟨b1,o1,vs,rfl,_,hbw,_,hRx,hcs⟩:=HV.out.at i x hx
 obtain ⟨x0,x1,x2,x3,x4,x5⟩:=x
 obtain ⟨pv,rfl,_,hP⟩:=hRx
 obtain ⟨pA,pc,rfl,hq5,hm2⟩:=hP.shape
 obtain ⟨pn,hpn⟩:=gX (x5.length)
 have hpnn:pn≤9223372036854775807:=by unfold maxLen at hm2; simp only at hq5; omega
 rw [<- hpn] at hcs hP
 have HP:=qH hP
 have HPN:=qH hpn
 have hE:EltS b1 (o1 + i * 6) _ w:=hcs
 have e0:=hE 0 _ rfl
 have e1:=hE 1 _ rfl
 have e2:=hE 2 _ rfl
 have e3:=hE 3 _ rfl
 have e4:=hE 4 _ rfl
 have e5:=hE 5 _ rfl
 simp only [Nat.add_zero] at e0
 have HS:=qH (show V = (if x0 < 1∨1073741824 < x0 then 18 else if prevS l i = some x0 then 7 else if prevLt (prevS l i) x0 = true then 6 else if x1≠1∧x1≠2 then 3 else
  if stNameB x2 = false then 13 else if 0≤idxP (nmP x1 x2) (l.take i) then 7 else if x5.any (fun p => decide (p.1 = 20∨p.1 = 1)) then 4 else propC (if x1 = 1 then 2 else 1) x5) from HS0.out)
 clear hcs hE hP hm1 hm2 hq5 hpn hv hV hn hx hG HS0
 obtain ⟨g,hg⟩:=gX (w.heap.size)
 obtain ⟨W,hW⟩:=gX (w.alloc (.cells #[.int .i64 x0,.int .i64 x1,.string x2,.int .i64 x3,.int .i64 x4,.slice pA pn pc] 107))
 have hbk:W.heap[g]? = some (.cells #[.int .i64 x0,.int .i64 x1,.string x2,.int .i64 x3,.int .i64 x4,.slice pA pn pc] 107 (0,0)):=by rw [hW]; exact ah _ _ hg
 have hBW:Below w.heap.size w W:=by rw [hW]; exact (Below.refl _ _).alloc (Nat.le_refl _) _
 have HW:=qH hW
 have HGq:=qH hg
 have Hb:=qH hbk
 have HBW:=qH hBW
 clear hW hg hbk hBW
 go_enter Tryz.func173,Tryz.ntmps173
 go_upto_region 2 with fail
 rw [<- HW.out,<- HGq.out]
 clear HW e0 e1 e2 e3 e4 e5
 have HB:=HBW
 clear HBW
 go_upto_region 2 with fail
 go_cut [14] from 15 to 22 (fun bv wr => bv = .bool (decide (x0 < 1∨1073741824 < x0))∧Hid (Below w.heap.size w wr)∧Hid (wr.heap[g]? = some (.cells #[.int .i64 x0,.int .i64 x1,.string x2,.int .i64 x3,.int .i64 x4,.slice pA pn pc] 107 (0,0))))
 case first =>
  have z0:=aa Hb.out 0
  by_cases h1:x0 < 1
  ·have d1:decide (x0 < 1) = true:=by simpa using h1
   have dP:decide (x0 < 1∨1073741824 < x0) = true:=by simp; omega
   go_wp2_with fail
   go_meet
   exact ⟨by rw [dP],HB,Hb⟩
  have d1:decide (x0 < 1) = false:=by simpa using h1
  by_cases h2:1073741824 < x0
  ·have d2:decide (1073741824 < x0) = true:=by simpa using h2
   have dP:decide (x0 < 1∨1073741824 < x0) = true:=by simp; omega
   go_wp2_with fail
   go_meet
   exact ⟨by rw [dP],HB,Hb⟩
  have d2:decide (1073741824 < x0) = false:=by simpa using h2
  have dP:decide (x0 < 1∨1073741824 < x0) = false:=by simp; omega
  go_wp2_with fail
  go_meet
  exact ⟨by rw [dP],HB,Hb⟩
 obtain ⟨rfl,HB,Hb⟩:=hcut
 by_cases hP1:x0 < 1∨1073741824 < x0
 ·have dP:decide (x0 < 1∨1073741824 < x0) = true:=by simpa using hP1
  have HF:=qH (show V = 18 from HS.out.trans (if_pos hP1))
  rw [dP]
  clear HS
  go_wp2_with fail
  go_ret
  exact ⟨by rw [HF.out]; rfl,HB.out⟩
 have dP:decide (x0 < 1∨1073741824 < x0) = false:=by simpa using hP1
 replace HS:=qH (show V = _ from HS.out.trans (if_neg hP1))
 rw [dP]
 clear dP
 go_upto_region 4 with fail
 go_cut [23] from 24 to 36 (fun bv wr => bv = .bool (decide (prevS l i = some x0))∧Hid (Below w.heap.size w wr)∧Hid (wr.heap[g]? = some (.cells #[.int .i64 x0,.int .i64 x1,.string x2,.int .i64 x3,.int .i64 x4,.slice pA pn pc] 107 (0,0))))
 case first =>
  have z0:=aa Hb.out 0
  by_cases h0:i = 0
  ·have dz:decide (0 < (i:Int)) = false:=by simp; omega
   have dz3:decide (0 < i) = false:=by simp; omega
   have hk0:prevS l i = none:=by unfold prevS; rw [if_pos h0]
   have dP:decide (prevS l i = some x0) = false:=by rw [decide_eq_false_iff_not,hk0]; simp
   clear hk0 h0
   go_quiet (fail)
   go_wp2_with fail
   go_meet
   exact ⟨by rw [dP],qH (aq HB.out nq),qH Hb.out⟩
  have hi1:0 < i:=by omega
  have hi2:decide ((0:Int) < (i:Int)) = true:=by simp; omega
  have hi3:decide (0 < i) = true:=by simp; omega
  obtain ⟨y,hy⟩:∃ y,l[i - 1]? = some y:=⟨_,List.getElem?_eq_getElem (by rw [<- HN.out]; omega)⟩
  have hk0:=prevS_succ hi1 hy
  obtain ⟨b2,o2,us,hA,_,hbw2,_,hRy,hds⟩:=HV.out.at (i - 1) y hy
  injection hA with hA
  injection hA with hA1 hA2
  subst hA1 hA2
  have hD:=EltS.below (w:=w) hds hbw2 HB.out
  obtain ⟨y0,y1,y2,y3,y4,y5⟩:=y
  obtain ⟨qv,rfl,_,_⟩:=hRy
  have d0:=hD 0 _ rfl
  simp only [Nat.add_zero] at d0
  obtain ⟨m,hm⟩:=gX (i - 1)
  rw [<- hm] at d0
  have em:IntKind.i64.wrap ((i:Int) - 1) = (m:Int):=by rw [IntWalk.i64_in _ (by omega)]; omega
  have em2:wrap64 ((i:Int) - 1) = (m:Int):=by rw [IntWalk.wrap64_in _ (by omega)]; omega
  have em3:(i:Int) - 1 = (m:Int):=by omega
  have hmn:(m:Int) < (n:Int):=by omega
  clear hy hds hD hm
  by_cases h1:x0 = y0
  ·subst h1
   have dP:decide (prevS l i = some x0) = true:=by rw [decide_eq_true_iff]; exact hk0
   clear hk0
   go_quiet (fail)
   go_wp2_with fail
   go_meet
   exact ⟨by rw [dP],qH (aq HB.out nq),qH Hb.out⟩
  have d1:(x0 == y0) = false:=by rw [beq_eq_false_iff_ne]; exact h1
  have dP:decide (prevS l i = some x0) = false:=by rw [decide_eq_false_iff_not,hk0]; exact fun e => h1 (Option.some.inj e).symm
  clear hk0
  go_quiet (fail)
  go_wp2_with fail
  go_meet
  exact ⟨by rw [dP],qH (aq HB.out nq),qH Hb.out⟩
 obtain ⟨rfl,HB,Hb⟩:=hcut
 by_cases hP2:prevS l i = some x0
 ·have dP:decide (prevS l i = some x0) = true:=by simpa using hP2
  have HF:=qH (show V = 7 from HS.out.trans (if_pos hP2))
  rw [dP]
  clear HS
  go_wp2_with fail
  go_ret
  exact ⟨by rw [HF.out]; rfl,HB.out⟩
 have dP:decide (prevS l i = some x0) = false:=by simpa using hP2
 replace HS:=qH (show V = _ from HS.out.trans (if_neg hP2))
 rw [dP]
 clear dP
 go_upto_region 6 with fail
 go_cut [37] from 38 to 50 (fun bv wr => bv = .bool (decide (prevLt (prevS l i) x0 = true))∧Hid (Below w.heap.size w wr)∧Hid (wr.heap[g]? = some (.cells #[.int .i64 x0,.int .i64 x1,.string x2,.int .i64 x3,.int .i64 x4,.slice pA pn pc] 107 (0,0))))
 case first =>
  have z0:=aa Hb.out 0
  by_cases h0:i = 0
  ·have dz:decide (0 < (i:Int)) = false:=by simp; omega
   have dz3:decide (0 < i) = false:=by simp; omega
   have hk0:prevS l i = none:=by unfold prevS; rw [if_pos h0]
   have dP:decide (prevLt (prevS l i) x0 = true) = false:=by rw [decide_eq_false_iff_not,hk0]; simp [prevLt]
   clear hk0 h0
   go_quiet (fail)
   go_wp2_with fail
   go_meet
   exact ⟨by rw [dP],qH (aq HB.out nq),qH Hb.out⟩
  have hi1:0 < i:=by omega
  have hi2:decide ((0:Int) < (i:Int)) = true:=by simp; omega
  have hi3:decide (0 < i) = true:=by simp; omega
  obtain ⟨y,hy⟩:∃ y,l[i - 1]? = some y:=⟨_,List.getElem?_eq_getElem (by rw [<- HN.out]; omega)⟩
  have hk0:=prevS_succ hi1 hy
  obtain ⟨b2,o2,us,hA,_,hbw2,_,hRy,hds⟩:=HV.out.at (i - 1) y hy
  injection hA with hA
  injection hA with hA1 hA2
  subst hA1 hA2
  have hD:=EltS.below (w:=w) hds hbw2 HB.out
  obtain ⟨y0,y1,y2,y3,y4,y5⟩:=y
  obtain ⟨qv,rfl,_,_⟩:=hRy
  have d0:=hD 0 _ rfl
  simp only [Nat.add_zero] at d0
  obtain ⟨m,hm⟩:=gX (i - 1)
  rw [<- hm] at d0
  have em:IntKind.i64.wrap ((i:Int) - 1) = (m:Int):=by rw [IntWalk.i64_in _ (by omega)]; omega
  have em2:wrap64 ((i:Int) - 1) = (m:Int):=by rw [IntWalk.wrap64_in _ (by omega)]; omega
  have em3:(i:Int) - 1 = (m:Int):=by omega
  have hmn:(m:Int) < (n:Int):=by omega
  clear hy hds hD hm
  by_cases h1:x0 < y0
  ·have d1:decide (x0 < y0) = true:=by simpa using h1
   have dP:decide (prevLt (prevS l i) x0 = true) = true:=by rw [hk0]; simpa [prevLt] using h1
   clear hk0
   go_quiet (fail)
   go_wp2_with fail
   go_meet
   exact ⟨by rw [dP],qH (aq HB.out nq),qH Hb.out⟩
  have d1:decide (x0 < y0) = false:=by simpa using h1
  have dP:decide (prevLt (prevS l i) x0 = true) = false:=by rw [hk0]; simpa [prevLt] using h1
  clear hk0
  go_quiet (fail)
  go_wp2_with fail
  go_meet
  exact ⟨by rw [dP],qH (aq HB.out nq),qH Hb.out⟩
 obtain ⟨rfl,HB,Hb⟩:=hcut
 by_cases hP3:prevLt (prevS l i) x0 = true
 ·have dP:decide (prevLt (prevS l i) x0 = true) = true:=by simpa using hP3
  have HF:=qH (show V = 6 from HS.out.trans (if_pos hP3))
  rw [dP]
  clear HS
  go_wp2_with fail
  go_ret
  exact ⟨by rw [HF.out]; rfl,HB.out⟩
 have dP:decide (prevLt (prevS l i) x0 = true) = false:=by simpa using hP3
 replace HS:=qH (show V = _ from HS.out.trans (if_neg hP3))
 rw [dP]
 clear dP
 go_upto_region 8 with fail
 go_cut [51] from 52 to 59 (fun bv wr => bv = .bool (decide (x1≠1∧x1≠2))∧Hid (Below w.heap.size w wr)∧Hid (wr.heap[g]? = some (.cells #[.int .i64 x0,.int .i64 x1,.string x2,.int .i64 x3,.int .i64 x4,.slice pA pn pc] 107 (0,0))))
 case first =>
  have z1:=aa Hb.out 1
  by_cases h1:x1 = 1
  ·have dP:decide (x1≠1∧x1≠2) = false:=by simp; omega
   subst h1
   go_wp2_with fail
   go_meet
   exact ⟨by rw [dP],HB,Hb⟩
  have d1:(x1 == 1) = false:=by rw [beq_eq_false_iff_ne]; exact h1
  by_cases h2:x1 = 2
  ·have dP:decide (x1≠1∧x1≠2) = false:=by simp; omega
   subst h2
   go_wp2_with fail
   go_meet
   exact ⟨by rw [dP],HB,Hb⟩
  have d2:(x1 == 2) = false:=by rw [beq_eq_false_iff_ne]; exact h2
  have dP:decide (x1≠1∧x1≠2) = true:=by simp; omega
  go_wp2_with fail
  go_meet
  exact ⟨by rw [dP]; simp [h1,h2],HB,Hb⟩
 obtain ⟨rfl,HB,Hb⟩:=hcut
 by_cases hP4:x1≠1∧x1≠2
 ·have dP:decide (x1≠1∧x1≠2) = true:=by simpa using hP4
  have HF:=qH (show V = 3 from HS.out.trans (if_pos hP4))
  rw [dP]
  clear HS
  go_wp2_with fail
  go_ret
  exact ⟨by rw [HF.out]; rfl,HB.out⟩
 have dP:decide (x1≠1∧x1≠2) = false:=by simpa using hP4
 replace HS:=qH (show V = _ from HS.out.trans (if_neg hP4))
 rw [dP]
 clear dP
 have C:=qH (fun W => stName200 x2 W)
 have z2:=aa Hb.out 2
 obtain ⟨nb,hnb⟩:=gX (stNameB x2)
 rw [<- hnb] at C HS
 clear hnb
 go_wp2_with fail
 refine (C.out _).mono ?_
 rintro e w4 ⟨rfl,hb4⟩
 have Hb4:=qH ((hb4.block _ (ae Hb.out)).trans Hb.out)
 replace HB:=qH (HB.out.trans (hb4.mono HB.out.size))
 clear C z2 hb4 Hb
 cases nb
 ·have HF:=qH (show V = 13 by rw [HS.out,if_pos rfl])
  clear HS
  go_wp2_with fail
  go_ret
  exact ⟨by rw [HF.out]; rfl,HB.out⟩
 replace HS:=qH (show V = _ from HS.out.trans (if_neg (by decide)))
 obtain ⟨rr,hrr⟩:=gX (idxP (nmP x1 x2) (l.take i))
 rw [<- hrr] at HS
 have HB4d:=qH HB.out.drew
 have Hb4d:=qH (show w4.drew.heap[g]? = some (.cells #[.int .i64 x0,.int .i64 x1,.string x2,.int .i64 x3,.int .i64 x4,.slice pA pn pc] 107 (0,0)) from Hb4.out)
 have C201:Calls Tryz.prog 201 #[.slice (some ⟨b1,o1,none⟩) i cp,.int .i64 x1,.string x2] w4.drew (FndC rr w4.drew):=by
  rw [hrr]
  exact fnd201 G w4.drew _ _ x1 x2 ((HV.out.take i (by have:=HN.out; omega)).below aF HG.out HB4d.out) (fun b h => Nat.lt_of_lt_of_le (HG.out b h) HB4d.out.size)
 clear hrr
 go_upto_region 12 with fail
 refine ao (S:=fun w' => w'.heap[g]? = some (.cells #[.int .i64 x0,.int .i64 x1,.string x2,.int .i64 x3,.int .i64 x4,.slice pA pn pc] 107 (0,0))) [(true,0),(true,1),(true,2),(true,3),(true,4),(true,5),(true,6),(false,7),(true,8),(true,9),(true,10),(true,11),(true,12)] (by kernel_rfl) (by kernel_rfl) Hb4d.out ?_
 simp only [aO,List.getElem?_cons_succ,List.getElem?_cons_zero]
 refine sq2 (.slice (some ⟨b1,o1,none⟩) n cp) ?_
 refine sq2i (i:Int) ?_
 refine sq2 (.slice (some ⟨b1,o1,none⟩) i cp) ?_
 refine sq2p g 1 ?_
 refine sq2i x1 ?_ (fun w' hS => by have q:=aa hS 1; go_simp)
 refine sq2p g 2 ?_
 refine sq2 (.string x2) ?_ (fun w' hS => by have q:=aa hS 2; go_simp)
 refine af 201 #[.slice (some ⟨b1,o1,none⟩) i cp,.int .i64 x1,.string x2] (by go_simp) ?_
 refine Calls.mono (C201) ?_
 rintro e w5 ⟨rfl,hb5⟩
 have HB5:=qH (HB4d.out.trans (hb5.mono HB4d.out.size))
 have Hb5:=(hb5.block _ (ae Hb4d.out)).trans Hb4d.out
 refine ⟨_,rfl,Hb5,?_⟩
 simp only [Act.put,PutA,PutZ,PutS]
 refine sq2 (.tuple #[.int .i64 (if rr < 0 then 0 else rr),.bool (decide (0≤rr))]) ?_
 refine sq2i (if rr < 0 then 0 else rr) ?_
 refine sq2 (.bool (decide (0≤rr))) ?_
 refine sq2i (if rr < 0 then 0 else rr) ?_
 refine sq2 (.bool (decide (0≤rr))) ?_
 refine ad ?_
 clear C201
 replace Hb5:=qH Hb5
 by_cases hr0:0≤rr
 ·have dr:decide (0≤rr) = true:=by simpa using hr0
  have HF:=qH (show V = 7 from HS.out.trans (if_pos hr0))
  clear HS
  go_wp2_with fail
  go_ret
  exact ⟨by rw [HF.out]; rfl,HB5.out⟩
 have dr:decide (0≤rr) = false:=by simpa using hr0
 replace HS:=qH (show V = _ from HS.out.trans (if_neg hr0))
 have p5:=aa Hb5.out 5
 go_wp2_with fail
 clear p5
 have HSB:=qH (show V = (if (x5.drop 0).any (fun p => decide (p.1 = 20∨p.1 = 1)) then 4 else propC (if x1 = 1 then 2 else 1) x5) from HS.out)
 go_loopw [80] (fun iv wr => ∃ j:Nat,iv = .int .i64 (j:Int)∧j≤pn∧Hid (V = (if (x5.drop j).any (fun p => decide (p.1 = 20∨p.1 = 1)) then 4 else propC (if x1 = 1 then 2 else 1) x5))∧Hid (Below w5.heap.size w5 wr)) (fun iv _ => pn - (intOf iv).toNat)
 case atStart => exact ⟨0,rfl,Nat.zero_le _,HSB,qH (Below.refl _ _)⟩
 obtain ⟨j,rfl,hjn,HT,HBr⟩:=hrel
 have HB7:=qH (HB5.out.trans (HBr.out.mono HB5.out.size))
 have Hb7:=qH ((HBr.out.block _ (ae Hb5.out)).trans Hb5.out)
 clear HSB HS
 by_cases hlt:j < pn
 ·have hlt':(j:Int) < (pn:Int):=by omega
  obtain ⟨y,hy⟩:∃ y,x5[j]? = some y:=⟨_,List.getElem?_eq_getElem (by rw [<- HPN.out]; exact hlt)⟩
  obtain ⟨b3,o3,us,hA3,_,hbw3,_,hRy,hds⟩:=HP.out.at j y hy
  subst hA3
  have hD:=EltS.below (w:=w) hds hbw3 HB7.out
  obtain ⟨y0,y1⟩:=y
  obtain ⟨rfl,_⟩:=hRy
  have d0:=hD 0 _ rfl
  have d1:=hD 1 _ rfl
  simp only [Nat.add_zero] at d0
  have HT2:=qH (show V = (if (decide (y0 = 20∨y0 = 1) || (x5.drop (j + 1)).any (fun p => decide (p.1 = 20∨p.1 = 1))) then 4 else propC (if x1 = 1 then 2 else 1) x5) by
   rw [HT.out]
   obtain ⟨q1,q2⟩:=List.getElem?_eq_some_iff.1 hy
   rw [List.drop_eq_getElem_cons q1,q2]
   rfl)
  clear hds hy hD HT
  by_cases c1:y0 = 20
  ·subst c1
   have HF:=qH (show V = 4 by rw [HT2.out]; simp)
   have HBX:=qH (HB7.out.alloc HB7.out.size (.cells #[.int .i64 20,.int .i64 y1] 187))
   clear HT2
   go_wp2_with fail
   go_ret
   exact ⟨by rw [HF.out]; rfl,HBX.out⟩
  have f1:(y0 == 20) = false:=by rw [beq_eq_false_iff_ne]; exact c1
  by_cases c2:y0 = 1
  ·subst c2
   have HF:=qH (show V = 4 by rw [HT2.out]; simp)
   have HBX:=qH (HB7.out.alloc HB7.out.size (.cells #[.int .i64 1,.int .i64 y1] 187))
   clear HT2
   go_wp2_with fail
   go_ret
   exact ⟨by rw [HF.out]; rfl,HBX.out⟩
  have f2:(y0 == 1) = false:=by rw [beq_eq_false_iff_ne]; exact c2
  have HF:=qH (show V = (if (x5.drop (j + 1)).any (fun p => decide (p.1 = 20∨p.1 = 1)) then 4 else propC (if x1 = 1 then 2 else 1) x5) by rw [HT2.out,show decide (y0 = 20∨y0 = 1) = false by simp [c1,c2],Bool.false_or])
  have HBX:=qH (HBr.out.alloc HBr.out.size (.cells #[.int .i64 y0,.int .i64 y1] 187))
  clear HT2 c1 c2
  go_wp2_with fail
  exact ⟨⟨j + 1,by go_num,by omega,HF,HBX⟩,by simp [intOf]; omega⟩
 have hlt':¬ (j:Int) < (pn:Int):=by omega
 obtain ⟨el,hel⟩:∃ el:Int,el = if x1 = 1 then 2 else 1:=⟨_,rfl⟩
 have HF:=qH (show V = propC el x5 by rw [HT.out,List.drop_eq_nil_of_le (by rw [<- HPN.out]; omega),hel]; rfl)
 have C202:∀ W,Calls Tryz.prog 202 #[.int .i64 x1] W (RetI el W):=fun W => by rw [hel]; exact element202 x1 W
 clear HT hel
 go_upto_region 21 with fail
 have HB7d:=qH HB7.out.drew
 have Hb7d:=qH (show wr.drew.heap[g]? = some (.cells #[.int .i64 x0,.int .i64 x1,.string x2,.int .i64 x3,.int .i64 x4,.slice pA pn pc] 107 (0,0)) from Hb7.out)
 refine ao (S:=fun w' => w'.heap[g]? = some (.cells #[.int .i64 x0,.int .i64 x1,.string x2,.int .i64 x3,.int .i64 x4,.slice pA pn pc] 107 (0,0))) [(true,0),(true,1),(true,3),(true,4),(false,2),(false,5),(true,6)] (by kernel_rfl) (by kernel_rfl) Hb7d.out ?_
 simp only [aO,List.getElem?_cons_succ,List.getElem?_cons_zero]
 refine sq2p g 1 ?_
 refine sq2i x1 ?_ (fun w' hS => by have q:=aa hS 1; go_simp)
 refine sq2p g 5 ?_
 refine sq2 (.slice pA pn pc) ?_ (fun w' hS => by have q:=aa hS 5; go_simp)
 refine af 202 #[.int .i64 x1] (by go_simp) ?_
 refine Calls.mono (C202 _) ?_
 rintro e w8 ⟨rfl,hb8⟩
 have HB8:=qH (HB7d.out.trans (hb8.mono HB7d.out.size))
 have Hb8:=(hb8.block _ (ae Hb7d.out)).trans Hb7d.out
 refine ⟨_,rfl,Hb8,?_⟩
 simp only [Act.put,PutA,PutZ,PutS]
 refine af 108 #[.int .i64 el,.slice pA pn pc] (by go_simp) ?_
 refine Calls.mono ((check108 _ G w8 _ _ (HP.out.below am HG.out HB8.out))) ?_
 rintro e w9 ⟨rfl,hb9⟩
 have HB9:=qH (HB8.out.trans (hb9.mono HB8.out.size))
 have Hb9:=(hb9.block _ (ae Hb8)).trans Hb8
 refine ⟨_,rfl,Hb9,?_⟩
 simp only [Act.put,PutA,PutZ,PutS]
 refine sq2i (propC el x5) ?_
 refine ad ?_
 clear Hb9 C202
 go_wp2_with fail
 go_ret
 exact ⟨by rw [HF.out]; rfl,HB9.out⟩
end Go.Proofs.YtmhhcfceikcfbaaGreat
