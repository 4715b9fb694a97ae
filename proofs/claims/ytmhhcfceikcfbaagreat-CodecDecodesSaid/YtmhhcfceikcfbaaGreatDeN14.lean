/- Walks: the styles of a document checked. -/
import Derived.Test.YtmhhcfceikcfbaaGreatDeN11
namespace Go.Proofs.YtmhhcfceikcfbaaGreat
open Go.RowKit
set_option maxRecDepth 100000
set_option maxHeartbeats 4000000
def refC (l:List Sty) (i:Nat):Int:=match l[i]? with
 | some s => if ((decide (s.2.2.2.1≠0) && !isB l s.2.1 s.2.2.2.1) || (decide (s.2.2.2.2.1≠0) && (decide (s.2.1 = 2) || !isB l 1 s.2.2.2.2.1))) = true then 25 else 0
 | none => 0
def cycC (l:List Sty) (i:Nat):Int:=match l[i]? with
 | some s => if chF l l.length s.1 = true then 16 else 0
 | none => 0
def orI (a b:Int):Int:=if a≠0 then a else b
theorem orI_ne {a b:Int} (h:a≠0):orI a b = a:=if_pos h
theorem orI_eq {a b:Int} (h:a = 0):orI a b = b:=if_neg (by rw [h]; decide)
def styT (l:List Sty):Int:=if 128 < l.length then 9 else orI (allR (ownC l) l.length 0) (orI (allR (refC l) l.length 0) (allR (cycC l) l.length 0))
theorem orI_at {f:Nat→Int} {n i:Nat} {b:Int} (h:i < n):orI (allR f (n - i) i) b = orI (f i) (orI (allR f (n - (i + 1)) (i + 1)) b):=by
 rw [allR_at h]
 unfold orI
 by_cases h0:f i = 0 <;> simp [h0]
theorem chain175 (A:Option Addr) (n c:Nat) (id:Int) (w:World):Calls Tryz.prog 175 #[.slice A n c,.int .i64 id] w fun e w' => e = .returned (.func (.func 204) #[] #[.pointer (some ⟨w.heap.size,0,none⟩),.pointer (some ⟨w.heap.size + 1,0,none⟩)])∧w' = (w.alloc (.cells #[.slice A n c] 42)).alloc (.cells #[.int .i64 id] 3):=by
 go_enter Tryz.func175,Tryz.ntmps175
 go_wp2_with fail
 go_ret
 exact ⟨by simp,rfl⟩
theorem res98 (tm:Array Value) (b:Nat) (x:Int) (w:World) (h:tm.getD 2 undef = .pointer (some ⟨b,0,none⟩)) (hc:w.cell? ⟨b,0,none⟩ = some (.int .i64 x)):(results Tryz.f98 tm).run Tryz.prog w = .ok (.int .i64 x) w:=by
 have hres:Tryz.f98.results = #[ResultVar.cell 2 23]:=by kernel_rfl
 have h':tm[2]?.getD undef = .pointer (some ⟨b,0,none⟩):=by simpa using h
 simp only [results,hres]
 simp [h']
 go_simp
theorem post_ret {tm:Array Value} {rs:List Nat} {w0 W:World} {b:Nat} {V x:Int} (h:tm.getD 2 undef = .pointer (some ⟨b,0,none⟩)) (hn:rs.Nodup) (hm:∀ r∈rs,W.heap[r]? = some (.deferred (some [])))
  (hb:W.heap[b]? = some (.cells #[.int .i64 x] 23 (0,0))) (hV:V = x) (hB:Below w0.heap.size w0 W) (hr:∀ r∈rs,w0.heap.size≤r∧r≠b) :
  bodyPostM Fence.wide 9 Tryz.prog Tryz.f98 (RetI V w0) .ret ⟨tm,rs.map markD⟩ W:=by
 show LeavesInM _ _ _ _ _ _ _ _ _
 refine leaves_marks rs W hn hm (fun W' hk => ⟨_,res98 tm b x W' h ?_,by rw [hV],?_⟩)
 ·exact aa ((hk.block b (fun e => (hr b e).2 rfl)).trans hb) 0
 exact ⟨hk.os.trans hB.os,hk.tape.trans hB.tape,hk.output.trans hB.output,by rw [hk.size]; exact hB.size,fun k hk2 => (hk.block k (fun e => by have:=(hr k e).1; omega)).trans (hB.block k hk2)⟩
theorem post_ret0 {tm:Array Value} {w0 W:World} {b:Nat} {V x:Int} (h:tm.getD 2 undef = .pointer (some ⟨b,0,none⟩))
  (hb:W.heap[b]? = some (.cells #[.int .i64 x] 23 (0,0))) (hV:V = x) (hB:Below w0.heap.size w0 W) :
  bodyPostM Fence.wide 9 Tryz.prog Tryz.f98 (RetI V w0) .ret ⟨tm,[]⟩ W:=post_ret (rs:=[]) h List.nodup_nil (fun r hr => by cases hr) hb hV hB (fun r hr => by cases hr)
structure Bx2 (G:Nat→Prop) (sl:Value) (l:List Sty) (b1 b2:Nat) (w0 W:World):Prop where
 b1:W.heap[b1]? = some (.cells #[sl] 42 (0,0))
 b2:W.heap[b2]? = some (.cells #[.int .i64 0] 23 (0,0))
 bl:Below w0.heap.size w0 W
theorem Bx2.over {G:Nat→Prop} {sl:Value} {l:List Sty} {b1 b2:Nat} {w0 W W':World} (h:Bx2 G sl l b1 b2 w0 W) (hb:Below W.heap.size W W'):Bx2 G sl l b1 b2 w0 W' :=
 ⟨(hb.block _ (ae h.b1)).trans h.b1,(hb.block _ (ae h.b2)).trans h.b2,h.bl.trans (hb.mono h.bl.size)⟩
theorem Bx2.set {G:Nat→Prop} {sl:Value} {l:List Sty} {b1 b2:Nat} {w0 W:World} (h:Bx2 G sl l b1 b2 w0 W) (hb:w0.heap.size≤b2) (x:Int):(W.setCell ⟨b2,0,none⟩ (.int .i64 x)).heap[b2]? = some (.cells #[.int .i64 x] 23 (0,0))∧Below w0.heap.size w0 (W.setCell ⟨b2,0,none⟩ (.int .i64 x)) :=
 ⟨heap_setCell_same W b2 0 _ _ _ h.b2,bK h.bl (grownBy_setCell' W b2 _) hb h.bl.size⟩
def InL (nb n:Nat) (G:Nat→Prop) (sl:Value) (l:List Sty) (b1 b2:Nat) (w:World) (rs:List Nat) (B k:Nat) (X:World):Prop:=X.heap[nb]? = some (.cells #[.int .i64 (k:Int)] 3 (0,0))∧k≤n∧Bx2 G sl l b1 b2 w X∧(∀ r∈rs,X.heap[r]? = some (.deferred (some [])))∧B≤X.heap.size
def IxL (b2:Nat) (w:World) (rs:List Nat) (B:Nat) (X:World):Prop:=X.heap[b2]? = some (.cells #[.int .i64 16] 23 (0,0))∧Below w.heap.size w X∧(∀ r∈rs,X.heap[r]? = some (.deferred (some [])))∧B≤X.heap.size
def cntK (nb:Nat) (X:World):Nat:=match X.heap[nb]? with
 | some (.cells cs _ _) => (intOf (cs.getD 0 undef)).toNat
 | _ => 0
theorem inL_cnt {nb n:Nat} {G:Nat→Prop} {sl:Value} {l:List Sty} {b1 b2:Nat} {w:World} {rs:List Nat} {B k:Nat} {X:World} (h:InL nb n G sl l b1 b2 w rs B k X):cntK nb X = k∧k≤n:=by
 refine ⟨?_,h.2.1⟩
 unfold cntK
 rw [h.1]
 simp [intOf]
theorem below_from {B:Nat} {w X X':World} {row:Option Nat} (h:Below w.heap.size w X) (hg:X.grownBy X' row) (hr:∀ r,row = some r→B≤r) (hB:w.heap.size≤B):Below w.heap.size w X' :=
 ⟨hg.os.trans h.os,hg.tape.trans h.tape,hg.output.trans h.output,Nat.le_trans h.size hg.size,fun k hk => (hg.block k (Nat.lt_of_lt_of_le hk h.size) (fun e => by have:=hr k e.symm; omega)).trans (h.block k hk)⟩
theorem inL_from {nb n:Nat} {G:Nat→Prop} {sl:Value} {l:List Sty} {b1 b2:Nat} {w:World} {rs:List Nat} {B:Nat} (h1:nb < B) (h2:b1 < B) (h3:b2 < B) (h4:∀ r∈rs,r < B) (h5:w.heap.size≤B):FromB B (InL nb n G sl l b1 b2 w rs B):=by
 rintro k X X' row ⟨q1,q2,q3,q4,q5⟩ hg hr
 have q:∀ b,b < B→X'.heap[b]? = X.heap[b]?:=fun b hb => hg.block b (by omega) (fun e => by have:=hr b e.symm; omega)
 exact ⟨(q nb h1).trans q1,q2,⟨(q b1 h2).trans q3.b1,(q b2 h3).trans q3.b2,below_from q3.bl hg hr h5⟩,fun r hr' => (q r (h4 r hr')).trans (q4 r hr'),Nat.le_trans q5 hg.size⟩
theorem ixL_from {b2:Nat} {w:World} {rs:List Nat} {B:Nat} (h3:b2 < B) (h4:∀ r∈rs,r < B) (h5:w.heap.size≤B):FromB B (fun (_:Unit) => IxL b2 w rs B):=by
 rintro k X X' row ⟨q1,q2,q4,q5⟩ hg hr
 have q:∀ b,b < B→X'.heap[b]? = X.heap[b]?:=fun b hb => hg.block b (by omega) (fun e => by have:=hr b e.symm; omega)
 exact ⟨(q b2 h3).trans q1,below_from q2 hg hr h5,fun r hr' => (q r (h4 r hr')).trans (q4 r hr'),Nat.le_trans q5 hg.size⟩
theorem keepX_set {ex:Nat→Prop} (X:World) (b:Nat) (v:Value) (h:ex b):KeepX ex X (X.setCell ⟨b,0,none⟩ v) :=
 ⟨rfl,rfl,rfl,by simp,fun i hi => heap_setCell_other X ⟨b,0,none⟩ i v (fun e => hi (by have e1:b = i:=e.symm; rw [<- e1]; exact h))⟩
attribute [local go_sem] Oper.semAt_some
theorem sty98:StyC styT:=by
 intro G w v l hv hG hz
 obtain ⟨A0,cp,rfl,hlc,hcm⟩:=hv.shape
 unfold maxLen at hcm
 obtain ⟨V,hV⟩:=gX (styT l)
 rw [<- hV]
 unfold styT at hV
 obtain ⟨n,hn⟩:=gX (l.length)
 rw [<- hn] at hv hlc hV ⊢
 have HN:=qH hn
 have HSL:=qH hv
 have HG:=qH hG
 have HV:=qH hV
 obtain ⟨b1,hb1⟩:=gX (w.heap.size)
 obtain ⟨b2,hb2⟩:=gX (w.heap.size + 1)
 obtain ⟨W,hW⟩:=gX ((w.alloc (.cells #[.slice A0 n cp] 42)).alloc (.cells #[.int .i64 0] 23))
 have hX:Bx2 G (.slice A0 n cp) l b1 b2 w W:=by
  rw [hW,hb1,hb2]
  refine ⟨?_,?_,?_⟩
  ·exact (Below.heap_alloc _ _ _ (by simp)).trans (heap_alloc_new _ _)
  ·exact ah _ _ (by simp)
  exact ((Below.refl _ _).alloc (Nat.le_refl _) _).alloc (by simp) _
 have HX:=qH hX
 have HB1:Hid (w.heap.size≤b1):=qH (by omega)
 have HB2:Hid (w.heap.size≤b2):=qH (by omega)
 have HB12:Hid (b1 < b2):=qH (by omega)
 have HWW:=qH hW
 have HBB:=qH hb1
 have HBC:=qH hb2
 have eb:=aa hX.b1 0
 clear hv hV hn hG hz hW hb1 hb2 hX
 refine (callsIn_wide (n:=9)).1 ?_
 refine callsIn_of_wp_marks Tryz.func98 rfl trivial ?_ rfl
 simp only [Tryz.ntmps98,List.size_toArray,List.length_cons,List.length_nil,Nat.reduceAdd,Nat.reduceSub,Array.replicate_succ,Array.replicate_zero,List.push_toArray,List.append_toArray,List.nil_append,List.cons_append]
 refine wpIn_wide.2 ?_
 go_upto_region 1 with fail
 rw [<- HWW.out,<- HBC.out,<- HBB.out]
 clear HWW HBB HBC
 by_cases h128:128 < n
 case pos =>
  have f1:decide ((128:Int) < (n:Int)) = true:=by simp; omega
  have f2:decide (128 < n) = true:=by simpa using h128
  have HVV:Hid (V = 9):=qH (HV.out.trans (if_pos h128))
  have HXX:=HX
  clear HV h128
  obtain ⟨hs1,hs2⟩:=HXX.out.set HB2.out (9)
  have es:=aa HXX.out.b2 0
  have fs:=blk_free HXX.out.b2 0
  have HF:=qH hs1
  have HF2:=qH hs2
  clear hs1 hs2
  go_wp2_with fail
  (try simp only [Exit.inBlock,Exit.then])
  exact post_ret0 rfl HF.out HVV.out HF2.out
 have f1:decide ((128:Int) < (n:Int)) = false:=by simp; omega
 have f2:decide (128 < n) = false:=by simpa using h128
 have HN128:Hid (n≤128):=qH (by omega)
 obtain ⟨R3,hR3⟩:=gX (allR (cycC l) n 0)
 obtain ⟨R2,hR2⟩:=gX (orI (allR (refC l) n 0) R3)
 have HV1:Hid (V = orI (allR (ownC l) (n - 0) 0) R2):=qH (by rw [HV.out,if_neg h128,hR2,hR3]; rfl)
 have HR2:=qH hR2
 have HR3:=qH hR3
 clear HV h128 hR2 hR3
 go_wp2_with fail
 clear eb f1 f2
 go_loopw [15] (fun iv wr => ∃ i:Nat,iv = .int .i64 (i:Int)∧i≤n∧Hid (V = orI (allR (ownC l) (n - i) i) R2)∧Hid (Bx2 G (.slice A0 n cp) l b1 b2 w wr)) (fun iv _ => n - (intOf iv).toNat)
 case atStart => exact ⟨0,rfl,Nat.zero_le _,HV1,HX⟩
 obtain ⟨i,rfl,hin,HT,HXr⟩:=hrel
 clear HV1 HX
 have HX:=HXr
 clear HXr
 by_cases hlt:i < n
 ·have hlt':(i:Int) < (n:Int):=by omega
  have C:=qH (own173 G wr _ l i (by rw [<- HN.out]; exact hlt) (HSL.out.below aF HG.out HX.out.bl) (fun b h => Nat.lt_of_lt_of_le (HG.out b h) HX.out.bl.size))
  obtain ⟨E,hE⟩:=gX (ownC l i)
  rw [<- hE] at C
  have HT2:Hid (V = orI E (orI (allR (ownC l) (n - (i + 1)) (i + 1)) R2)):=qH (by rw [hE,HT.out,orI_at hlt])
  have eb:=aa HX.out.b1 0
  clear hE HT
  go_wp2_with fail
  refine C.out.mono ?_
  rintro e w2 ⟨rfl,hb2⟩
  have HXX:=qH (HX.out.over hb2)
  clear C hb2 eb HX
  by_cases he:E = 0
  case neg =>
   have g1:(E == 0) = false:=by rw [beq_eq_false_iff_ne]; exact he
   have g2:(E != 0) = true:=by simp [bne,g1]
   have HVV:=qH (HT2.out.trans (orI_ne he))
   clear he HT2
   obtain ⟨hs1,hs2⟩:=HXX.out.set HB2.out (E)
   have es:=aa HXX.out.b2 0
   have fs:=blk_free HXX.out.b2 0
   have HF:=qH hs1
   have HF2:=qH hs2
   clear hs1 hs2
   go_wp2_with fail
   (try simp only [Exit.inBlock,Exit.then])
   exact post_ret0 rfl HF.out HVV.out HF2.out
  subst he
  have HT3:=qH (HT2.out.trans (orI_eq rfl))
  clear HT2
  go_wp2_with fail
  exact ⟨⟨i + 1,by go_num,by omega,HT3,HXX⟩,by simp [intOf]; omega⟩
 have hlt':¬ (i:Int) < (n:Int):=by omega
 have HV2:Hid (V = orI (allR (refC l) (n - 0) 0) R3):=qH (by rw [HT.out,show n - i = 0 by omega]; exact (orI_eq (a:=allR (ownC l) 0 i) rfl).trans HR2.out)
 have eb:=aa HX.out.b1 0
 clear HT hin hlt HR2
 go_wp2_with fail
 clear eb hlt'
 go_loopw [27] (fun iv wr => ∃ i:Nat,iv = .int .i64 (i:Int)∧i≤n∧Hid (V = orI (allR (refC l) (n - i) i) R3)∧Hid (Bx2 G (.slice A0 n cp) l b1 b2 w wr)) (fun iv _ => n - (intOf iv).toNat)
 case atStart => exact ⟨0,rfl,Nat.zero_le _,HV2,HX⟩
 obtain ⟨i,rfl,hin,HT,HXr⟩:=hrel
 clear HV2 HX
 have HX:=HXr
 clear HXr
 by_cases hlt:i < n
 ·have hlt':(i:Int) < (n:Int):=by omega
  obtain ⟨y,hy⟩:∃ y,l[i]? = some y:=⟨_,List.getElem?_eq_getElem (by rw [<- HN.out]; exact hlt)⟩
  obtain ⟨b3,o3,us,hA3,hg3,hbw3,_,hRy,hds⟩:=HSL.out.at i y hy
  subst hA3
  obtain ⟨x0,x1,x2,x3,x4,x5⟩:=y
  obtain ⟨pv,rfl,_,hL⟩:=hRy
  obtain ⟨pA,pc,rfl,_,_⟩:=hL.shape
  simp only at hL hds
  obtain ⟨pn,hpn⟩:=gX (x5.length)
  rw [<- hpn] at hds
  clear hL hpn
  have hE:EltS b3 (o3 + i * 6) [.int .i64 x0,.int .i64 x1,.string x2,.int .i64 x3,.int .i64 x4,.slice pA pn pc] wr:=EltS.below (w:=w) hds (HG.out b3 hg3) HX.out.bl
  have e0:=hE 0 _ rfl
  have e1:=hE 1 _ rfl
  have e2:=hE 2 _ rfl
  have e3:=hE 3 _ rfl
  have e4:=hE 4 _ rfl
  have e5:=hE 5 _ rfl
  simp only [Nat.add_zero] at e0
  have eb:=aa HX.out.b1 0
  obtain ⟨d,hd0⟩:=gX (wr.heap.size)
  obtain ⟨w1,hw1⟩:=gX (wr.alloc (.cells #[.int .i64 x0,.int .i64 x1,.string x2,.int .i64 x3,.int .i64 x4,.slice pA pn pc] 107))
  have hdb:w1.heap[d]? = some (.cells #[.int .i64 x0,.int .i64 x1,.string x2,.int .i64 x3,.int .i64 x4,.slice pA pn pc] 107 (0,0)):=by rw [hw1]; exact ah _ _ hd0
  have bd:Below wr.heap.size wr w1:=by rw [hw1]; exact ag _ _
  have HX1:=qH (HX.out.over bd)
  have HD:=qH hdb
  have HWd:=qH hw1
  have HDd:=qH hd0
  have hy':=hy
  clear hE hds hdb bd hw1 hd0
  have HR:Hid (refC l i = if ((decide (x3≠0) && !isB l x1 x3) || (decide (x4≠0) && (decide (x1 = 2) || !isB l 1 x4))) = true then 25 else 0):=qH (by unfold refC; rw [hy'])
  obtain ⟨qB,hqB⟩:=gX (isB l x1 x3)
  obtain ⟨qE,hqE⟩:=gX (isB l 1 x4)
  have CB:Hid (∀ X,Below w.heap.size w X→Calls Tryz.prog 174 #[.slice (some ⟨b3,o3,none⟩) n cp,.int .i64 x1,.int .i64 x3] X (RetB qB X)):=qH (fun X hX => by rw [hqB]; exact is174 G X _ l x1 x3 (HSL.out.below aF HG.out hX) (fun b h => Nat.lt_of_lt_of_le (HG.out b h) hX.size))
  have CE:Hid (∀ X,Below w.heap.size w X→Calls Tryz.prog 174 #[.slice (some ⟨b3,o3,none⟩) n cp,.int .i64 1,.int .i64 x4] X (RetB qE X)):=qH (fun X hX => by rw [hqE]; exact is174 G X _ l 1 x4 (HSL.out.below aF HG.out hX) (fun b h => Nat.lt_of_lt_of_le (HG.out b h) hX.size))
  rw [<- hqB,<- hqE] at HR
  obtain ⟨qq,hqq⟩:=gX (((decide (x3≠0) && !qB) || (decide (x4≠0) && (decide (x1 = 2) || !qE))))
  rw [<- hqq] at HR
  have HQ:=qH hqq
  have HT2:Hid (V = orI (if qq = true then 25 else 0) (orI (allR (refC l) (n - (i + 1)) (i + 1)) R3)):=qH (by rw [HT.out,orI_at hlt,HR.out])
  clear HT HR hy hy' hqB hqE hqq
  go_upto_region 13 with fail
  rw [<- HWd.out,<- HDd.out]
  clear HWd HDd e0 e1 e2 e3 e4 e5 eb
  have z1:=aa HD.out 1
  have z3:=aa HD.out 3
  have z4:=aa HD.out 4
  have eb:=aa HX1.out.b1 0
  go_cut [59] from 31 to 58 (fun bv wc => bv = .bool qq∧Below w1.heap.size w1 wc)
  case first =>
   clear HT2
   by_cases p3:x3 = 0
   ·have g1:(x3 == 0) = true:=by simpa using p3
    have g2:(x3 != 0) = false:=by simp [bne,g1]
    have P3:=qH p3
    clear p3
    by_cases p4:x4 = 0
    ·have h1:(x4 == 0) = true:=by simpa using p4
     have h2:(x4 != 0) = false:=by simp [bne,h1]
     have P4:=qH p4
     clear p4
     have dF:=qH (show qq = false by rw [HQ.out]; simp [P4.out,P3.out])
     have HBF:=qH (Below.refl w1.heap.size w1)
     go_wp2_with fail
     go_meet
     exact ⟨by rw [dF.out],HBF.out⟩
    have h1:(x4 == 0) = false:=by rw [beq_eq_false_iff_ne]; exact p4
    have h2:(x4 != 0) = true:=by simp [bne,h1]
    have P4:=qH p4
    clear p4
    by_cases p5:x1 = 2
    ·have h3:(x1 == 2) = true:=by simpa using p5
     have dF:=qH (show qq = true by rw [HQ.out]; simp [P4.out,p5,P3.out])
     clear p5
     have HBF:=qH (Below.refl w1.heap.size w1)
     go_wp2_with fail
     go_meet
     exact ⟨by rw [dF.out],HBF.out⟩
    have h3:(x1 == 2) = false:=by rw [beq_eq_false_iff_ne]; exact p5
    have dF:=qH (show qq = !qE by rw [HQ.out]; simp [P4.out,p5,P3.out])
    clear p5
    go_wp2_with fail
    refine (CE.out _ HX1.out.bl).mono ?_
    rintro e w3 ⟨rfl,hb3⟩
    have HBG:=qH hb3
    clear hb3 CE
    cases qE
    ·go_wp2_with fail
     go_meet
     exact ⟨by rw [dF.out]; rfl,HBG.out⟩
    go_wp2_with fail
    go_meet
    exact ⟨by rw [dF.out]; rfl,HBG.out⟩
   have g1:(x3 == 0) = false:=by rw [beq_eq_false_iff_ne]; exact p3
   have g2:(x3 != 0) = true:=by simp [bne,g1]
   have P3:=qH p3
   clear p3
   obtain ⟨qC,hqC⟩:=gX (qB)
   cases qC
   ·subst hqC
    have dF:=qH (show qq = true by rw [HQ.out]; simp [P3.out])
    go_wp2_with fail
    refine (CB.out _ HX1.out.bl).mono ?_
    rintro e w3 ⟨rfl,hb3⟩
    have HBF:=qH hb3
    have z1:=aa (ai HD.out hb3) 1
    have z3:=aa (ai HD.out hb3) 3
    have z4:=aa (ai HD.out hb3) 4
    have eb:=aa (HX1.out.over hb3).b1 0
    have hbl:=(HX1.out.over hb3).bl
    have HBL:=qH hbl
    clear hb3 CB hbl
    go_wp2_with fail
    go_meet
    exact ⟨by rw [dF.out],HBF.out⟩
   subst hqC
   by_cases p4:x4 = 0
   ·have h1:(x4 == 0) = true:=by simpa using p4
    have h2:(x4 != 0) = false:=by simp [bne,h1]
    have P4:=qH p4
    clear p4
    have dF:=qH (show qq = false by rw [HQ.out]; simp [P4.out])
    go_wp2_with fail
    refine (CB.out _ HX1.out.bl).mono ?_
    rintro e w3 ⟨rfl,hb3⟩
    have HBF:=qH hb3
    have z1:=aa (ai HD.out hb3) 1
    have z3:=aa (ai HD.out hb3) 3
    have z4:=aa (ai HD.out hb3) 4
    have eb:=aa (HX1.out.over hb3).b1 0
    have hbl:=(HX1.out.over hb3).bl
    have HBL:=qH hbl
    clear hb3 CB hbl
    go_wp2_with fail
    go_meet
    exact ⟨by rw [dF.out],HBF.out⟩
   have h1:(x4 == 0) = false:=by rw [beq_eq_false_iff_ne]; exact p4
   have h2:(x4 != 0) = true:=by simp [bne,h1]
   have P4:=qH p4
   clear p4
   by_cases p5:x1 = 2
   ·have h3:(x1 == 2) = true:=by simpa using p5
    have dF:=qH (show qq = true by rw [HQ.out]; simp [P4.out,p5])
    clear p5
    go_wp2_with fail
    refine (CB.out _ HX1.out.bl).mono ?_
    rintro e w3 ⟨rfl,hb3⟩
    have HBF:=qH hb3
    have z1:=aa (ai HD.out hb3) 1
    have z3:=aa (ai HD.out hb3) 3
    have z4:=aa (ai HD.out hb3) 4
    have eb:=aa (HX1.out.over hb3).b1 0
    have hbl:=(HX1.out.over hb3).bl
    have HBL:=qH hbl
    clear hb3 CB hbl
    go_wp2_with fail
    go_meet
    exact ⟨by rw [dF.out],HBF.out⟩
   have h3:(x1 == 2) = false:=by rw [beq_eq_false_iff_ne]; exact p5
   have dF:=qH (show qq = !qE by rw [HQ.out]; simp [P4.out,p5])
   clear p5
   go_wp2_with fail
   refine (CB.out _ HX1.out.bl).mono ?_
   rintro e w3 ⟨rfl,hb3⟩
   have HBF:=qH hb3
   have z1:=aa (ai HD.out hb3) 1
   have z3:=aa (ai HD.out hb3) 3
   have z4:=aa (ai HD.out hb3) 4
   have eb:=aa (HX1.out.over hb3).b1 0
   have hbl:=(HX1.out.over hb3).bl
   have HBL:=qH hbl
   clear hb3 CB hbl
   go_wp2_with fail
   refine (CE.out _ HBL.out).mono ?_
   rintro e w4 ⟨rfl,hb4⟩
   have HBG:=qH (HBF.out.trans (hb4.mono HBF.out.size))
   clear hb4 CE
   cases qE
   ·go_wp2_with fail
    go_meet
    exact ⟨by rw [dF.out]; rfl,HBG.out⟩
   go_wp2_with fail
   go_meet
   exact ⟨by rw [dF.out]; rfl,HBG.out⟩
  obtain ⟨rfl,hbc⟩:=hcut
  have HXX:=qH (HX1.out.over hbc)
  clear HQ CB CE hbc z1 z3 z4 eb HX HX1 HD
  cases qq
  case true =>
   have HVV:Hid (V = 25):=qH HT2.out
   clear HT2
   obtain ⟨hs1,hs2⟩:=HXX.out.set HB2.out (25)
   have es:=aa HXX.out.b2 0
   have fs:=blk_free HXX.out.b2 0
   have HF:=qH hs1
   have HF2:=qH hs2
   clear hs1 hs2
   go_wp2_with fail
   (try simp only [Exit.inBlock,Exit.then])
   exact post_ret0 rfl HF.out HVV.out HF2.out
  have HT3:Hid (V = orI (allR (refC l) (n - (i + 1)) (i + 1)) R3):=qH HT2.out
  clear HT2
  go_wp2_with fail
  exact ⟨⟨i + 1,by go_num,by omega,HT3,HXX⟩,by simp [intOf]; omega⟩
 have hlt':¬ (i:Int) < (n:Int):=by omega
 have HV3:Hid (V = allR (cycC l) (n - 0) 0):=qH (by rw [HT.out,show n - i = 0 by omega]; exact (orI_eq (a:=allR (refC l) 0 i) rfl).trans HR3.out)
 have eb:=aa HX.out.b1 0
 clear HT hin hlt HR3
 go_wp2_with fail
 clear eb hlt'
 refine wp_loop (fun a' wr => ∃ (i:Nat) (rs:List Nat) (u3 u4 u5 u6 u7 u8 u9 u10 u11 u12 u13 u14 u15 u16 u17 u18 u19 u20 u21 u22 u23 u24 u25 u26 u27 u28 u29 u30 u31 u32 u33 u34 u35 u36 u37 u38 u39 u40 u41 u42 u43 u44 u45 u46 u47 u48 u49 u50 u51 u52 u53 u54 u55 u56 u57 u58 u59 u60 u64 u65 u66 u67 u68 u69 u70 u71 u72 u73 u74 u75 u76 u77 u78:Value),a' = ⟨#[.slice A0 n cp,.pointer (some ⟨b1,0,none⟩),.pointer (some ⟨b2,0,none⟩),u3,u4,u5,u6,u7,u8,u9,u10,u11,u12,u13,u14,u15,u16,u17,u18,u19,u20,u21,u22,u23,u24,u25,u26,u27,u28,u29,u30,u31,u32,u33,u34,u35,u36,u37,u38,u39,u40,u41,u42,u43,u44,u45,u46,u47,u48,u49,u50,u51,u52,u53,u54,u55,u56,u57,u58,u59,u60,.slice A0 n cp,.int .i64 (n:Int),.int .i64 (i:Int),u64,u65,u66,u67,u68,u69,u70,u71,u72,u73,u74,u75,u76,u77,u78],rs.map markD⟩∧i≤n∧Hid (V = allR (cycC l) (n - i) i)∧Hid (Bx2 G (.slice A0 n cp) l b1 b2 w wr)∧Hid (rs.Nodup)∧Hid (∀ r∈rs,wr.heap[r]? = some (.deferred (some [])))∧Hid (∀ r∈rs,w.heap.size≤r∧r≠b2)) (fun a' _ => n - (intOf (a'.tmps.getD 63 undef)).toNat) ?_ ?_
 ·exact ⟨0,[],_,_,_,_,_,_,_,_,_,_,_,_,_,_,_,_,_,_,_,_,_,_,_,_,_,_,_,_,_,_,_,_,_,_,_,_,_,_,_,_,_,_,_,_,_,_,_,_,_,_,_,_,_,_,_,_,_,_,_,_,_,_,_,_,_,_,_,_,_,_,_,_,_,rfl,Nat.zero_le _,HV3,HX,qH List.nodup_nil,qH (fun r hr => by cases hr),qH (fun r hr => by cases hr)⟩
 intro a' wr hI
 obtain ⟨i,rs,hI⟩:=hI
 obtain ⟨u3,hI⟩:=hI
 obtain ⟨u4,hI⟩:=hI
 obtain ⟨u5,hI⟩:=hI
 obtain ⟨u6,hI⟩:=hI
 obtain ⟨u7,hI⟩:=hI
 obtain ⟨u8,hI⟩:=hI
 obtain ⟨u9,hI⟩:=hI
 obtain ⟨u10,hI⟩:=hI
 obtain ⟨u11,hI⟩:=hI
 obtain ⟨u12,hI⟩:=hI
 obtain ⟨u13,hI⟩:=hI
 obtain ⟨u14,hI⟩:=hI
 obtain ⟨u15,hI⟩:=hI
 obtain ⟨u16,hI⟩:=hI
 obtain ⟨u17,hI⟩:=hI
 obtain ⟨u18,hI⟩:=hI
 obtain ⟨u19,hI⟩:=hI
 obtain ⟨u20,hI⟩:=hI
 obtain ⟨u21,hI⟩:=hI
 obtain ⟨u22,hI⟩:=hI
 obtain ⟨u23,hI⟩:=hI
 obtain ⟨u24,hI⟩:=hI
 obtain ⟨u25,hI⟩:=hI
 obtain ⟨u26,hI⟩:=hI
 obtain ⟨u27,hI⟩:=hI
 obtain ⟨u28,hI⟩:=hI
 obtain ⟨u29,hI⟩:=hI
 obtain ⟨u30,hI⟩:=hI
 obtain ⟨u31,hI⟩:=hI
 obtain ⟨u32,hI⟩:=hI
 obtain ⟨u33,hI⟩:=hI
 obtain ⟨u34,hI⟩:=hI
 obtain ⟨u35,hI⟩:=hI
 obtain ⟨u36,hI⟩:=hI
 obtain ⟨u37,hI⟩:=hI
 obtain ⟨u38,hI⟩:=hI
 obtain ⟨u39,hI⟩:=hI
 obtain ⟨u40,hI⟩:=hI
 obtain ⟨u41,hI⟩:=hI
 obtain ⟨u42,hI⟩:=hI
 obtain ⟨u43,hI⟩:=hI
 obtain ⟨u44,hI⟩:=hI
 obtain ⟨u45,hI⟩:=hI
 obtain ⟨u46,hI⟩:=hI
 obtain ⟨u47,hI⟩:=hI
 obtain ⟨u48,hI⟩:=hI
 obtain ⟨u49,hI⟩:=hI
 obtain ⟨u50,hI⟩:=hI
 obtain ⟨u51,hI⟩:=hI
 obtain ⟨u52,hI⟩:=hI
 obtain ⟨u53,hI⟩:=hI
 obtain ⟨u54,hI⟩:=hI
 obtain ⟨u55,hI⟩:=hI
 obtain ⟨u56,hI⟩:=hI
 obtain ⟨u57,hI⟩:=hI
 obtain ⟨u58,hI⟩:=hI
 obtain ⟨u59,hI⟩:=hI
 obtain ⟨u60,hI⟩:=hI
 obtain ⟨u64,hI⟩:=hI
 obtain ⟨u65,hI⟩:=hI
 obtain ⟨u66,hI⟩:=hI
 obtain ⟨u67,hI⟩:=hI
 obtain ⟨u68,hI⟩:=hI
 obtain ⟨u69,hI⟩:=hI
 obtain ⟨u70,hI⟩:=hI
 obtain ⟨u71,hI⟩:=hI
 obtain ⟨u72,hI⟩:=hI
 obtain ⟨u73,hI⟩:=hI
 obtain ⟨u74,hI⟩:=hI
 obtain ⟨u75,hI⟩:=hI
 obtain ⟨u76,hI⟩:=hI
 obtain ⟨u77,hI⟩:=hI
 obtain ⟨u78,hI⟩:=hI
 obtain ⟨rfl,hin,HT,HXr,HND,HMK,HRS⟩:=hI
 clear HV3 HX
 have HX:=HXr
 clear HXr
 dsimp only
 by_cases hlt:i < n
 ·have hlt':(i:Int) < (n:Int):=by omega
  obtain ⟨y,hy⟩:∃ y,l[i]? = some y:=⟨_,List.getElem?_eq_getElem (by rw [<- HN.out]; exact hlt)⟩
  obtain ⟨b3,o3,us,hA3,hg3,hbw3,_,hRy,hds⟩:=HSL.out.at i y hy
  subst hA3
  obtain ⟨x0,x1,x2,x3,x4,x5⟩:=y
  obtain ⟨pv,rfl,_,hL⟩:=hRy
  obtain ⟨pA,pc,rfl,_,_⟩:=hL.shape
  simp only at hL hds
  obtain ⟨pn,hpn⟩:=gX (x5.length)
  rw [<- hpn] at hds
  clear hL hpn
  have hE:EltS b3 (o3 + i * 6) [.int .i64 x0,.int .i64 x1,.string x2,.int .i64 x3,.int .i64 x4,.slice pA pn pc] wr:=EltS.below (w:=w) hds (HG.out b3 hg3) HX.out.bl
  have e0:=hE 0 _ rfl
  have e1:=hE 1 _ rfl
  have e2:=hE 2 _ rfl
  have e3:=hE 3 _ rfl
  have e4:=hE 4 _ rfl
  have e5:=hE 5 _ rfl
  simp only [Nat.add_zero] at e0
  have eb:=aa HX.out.b1 0
  obtain ⟨d,hd0⟩:=gX (wr.heap.size)
  obtain ⟨w1,hw1⟩:=gX (wr.alloc (.cells #[.int .i64 x0,.int .i64 x1,.string x2,.int .i64 x3,.int .i64 x4,.slice pA pn pc] 107))
  have hdb:w1.heap[d]? = some (.cells #[.int .i64 x0,.int .i64 x1,.string x2,.int .i64 x3,.int .i64 x4,.slice pA pn pc] 107 (0,0)):=by rw [hw1]; exact ah _ _ hd0
  have bd:Below wr.heap.size wr w1:=by rw [hw1]; exact ag _ _
  have HX1:=qH (HX.out.over bd)
  have HD:=qH hdb
  have HWd:=qH hw1
  have HDd:=qH hd0
  have hy':=hy
  clear hE hds hdb bd hw1 hd0
  obtain ⟨nb,hnb0⟩:=gX (w1.heap.size)
  obtain ⟨w2,hw2⟩:=gX (w1.alloc (.cells #[.int .i64 0] 3))
  have hnb:w2.heap[nb]? = some (.cells #[.int .i64 0] 3 (0,0)):=by rw [hw2]; exact ah _ _ hnb0
  have bd2:Below w1.heap.size w1 w2:=by rw [hw2]; exact ag _ _
  have HX2:=qH (HX1.out.over bd2)
  have HD2:=qH (ai HD.out bd2)
  have HBD2:Hid (w1.heap.size + 1 = w2.heap.size):=qH (by rw [hw2]; simp)
  have HBD:Hid (wr.heap.size + 1 = w1.heap.size):=qH (by rw [HWd.out]; simp)
  have HNZ:Hid (nb = w1.heap.size):=qH hnb0
  have HB22:Hid (Below wr.heap.size wr w2):=qH (by rw [hw2,HWd.out]; exact ((Below.refl _ _).alloc (Nat.le_refl _) _).alloc (by simp) _)
  have HNB:=qH hnb
  have HW2:=qH hw2
  have HNB0:=qH hnb0
  clear hnb bd2 hw2 hnb0
  go_upto_region 19 with fail
  rw [<- HWd.out,<- HDd.out]
  clear HWd HDd e0 e1 e2 e3 e4 e5 eb
  go_upto_region 20 with fail
  rw [<- HW2.out,<- HNB0.out]
  clear HW2 HNB0
  have z0:=aa HD2.out 0
  have eb:=aa HX2.out.b1 0
  have hrl:∀ r∈rs,r < wr.heap.size:=fun r hr => (Array.getElem?_eq_some_iff.1 (HMK.out r hr)).1
  obtain ⟨ga,hga⟩:=gX (w2.heap.size)
  obtain ⟨gb,hgb⟩:=gX (w2.heap.size + 1)
  have hz1:=HBD.out
  have hz2:=HBD2.out
  have hb1w:=ae HX.out.b1
  have hb2w:=ae HX.out.b2
  have hnw:=ae HNB.out
  have hwz:=HX.out.bl.size
  have hord:b1 < ga∧b2 < ga∧nb < ga∧w.heap.size≤ga∧(∀ r∈rs,r < ga)∧w.heap.size≤nb∧nb≠b1∧nb≠b2∧b1≠b2∧gb = ga + 1:=by
   have:=HB1.out
   have:=HB2.out
   have:=HB12.out
   have:=HNZ.out
   exact ⟨by omega,by omega,by omega,by omega,fun r hr => by have:=hrl r hr; omega,by omega,by omega,by omega,by omega,by omega⟩
  have HMK2:Hid (∀ r∈rs,w2.heap[r]? = some (.deferred (some []))):=qH (fun r hr => (HB22.out.block r (hrl r hr)).trans (HMK.out r hr))
  have HCY:Hid (cycC l i = if chF l n x0 = true then 16 else 0):=qH (by unfold cycC; rw [hy',<- HN.out])
  have HT2:Hid (V = if cycC l i≠0 then cycC l i else allR (cycC l) (n - (i + 1)) (i + 1)):=qH (by rw [HT.out,allR_at hlt])
  have HGA:=qH hga
  have HGB:=qH hgb
  have HOR:=qH hord
  clear hrl hz1 hz2 hb1w hb2w hnw hwz hga hgb hy hy' hord
  go_wp2_with fail
  refine (chain175 _ _ _ _ _).mono ?_
  rintro e w3 ⟨rfl,hw3⟩
  rw [<- HGB.out,<- HGA.out]
  have HW3:=qH hw3
  clear hw3
  go_wp2_with fail
  have h3A:w3.heap[ga]? = some (.cells #[.slice (some ⟨b3,o3,none⟩) n cp] 42 (0,0)):=by
   rw [HW3.out]
   exact (Below.heap_alloc _ _ _ (by rw [HGA.out]; simp)).trans (ah _ _ HGA.out)
  have h3B:w3.heap[gb]? = some (.cells #[.int .i64 x0] 3 (0,0)):=by
   rw [HW3.out]
   exact ah _ _ (by rw [HGB.out]; simp)
  have hb3:Below w2.heap.size w2 w3:=by
   rw [HW3.out]
   exact ((Below.refl _ _).alloc (Nat.le_refl _) _).alloc (by simp) _
  have hs3:w3.heap.size = gb + 1:=by rw [HW3.out,HGB.out]; simp
  have hX3:=HX2.out.over hb3
  have hN3:=ai HNB.out hb3
  have hM3:∀ r∈rs,w3.heap[r]? = some (.deferred (some [])):=fun r hr => (hb3.block r (Array.getElem?_eq_some_iff.1 (HMK2.out r hr)).1).trans (HMK2.out r hr)
  obtain ⟨o1,o2,o3',o4,o5,o6,o7,o8,o9,o10⟩:=HOR.out
  refine (wpIn_wide (n:=9)).1 (rangeFunc_count (by omega) (gf:=204) (lb:=#[.pointer (some ⟨ga,0,none⟩),.pointer (some ⟨gb,0,none⟩)]) rfl (enters_of Tryz.func204 (by kernel_rfl) rfl) ga gb n (fun i => i = nb∨i = b2) (cntK nb) (chF l n x0) (by omega) (by omega) (fun i hi => by rcases hi with rfl | rfl <;> omega)
   (InL nb n G (.slice (some ⟨b3,o3,none⟩) n cp) l b1 b2 w rs ga) (IxL b2 w rs ga) (inL_from o3' o1 o2 o5 o4) (ixL_from o2 o5 o4) (fun k X h => inL_cnt h) ⟨hN3,Nat.zero_le _,hX3,hM3,by omega⟩ ?iter ?body ?done ?stop)
  case iter =>
   intro X hbX hsX
   have:=iter204 (9 - 1) (by omega) (w3.heap.size + 1) (fun i => i = nb∨i = b2) ga gb (cntK nb) X G (.slice (some ⟨b3,o3,none⟩) n cp) l x0 (ai h3A hbX) (ai h3B hbX) (HSL.out.below aF HG.out (hX3.bl.trans (hbX.mono hX3.bl.size)))
    (fun b hb => by have:=HG.out b hb; have:=HB2.out; exact ⟨fun e => by rcases e with e | e <;> omega,by omega,by omega⟩)
    ⟨fun e => by rcases e with e | e <;> omega,by omega,by omega⟩ ⟨fun e => by rcases e with e | e <;> omega,by omega⟩ (fun i hi => by rcases hi with (e | e) | e <;> omega)
   rw [<- HN.out] at this
   exact this
  case body =>
   rintro k v X hzX ⟨q1,q2,q3,q4,q5⟩
   simp only [List.setIfInBounds_toArray,List.set_cons_zero,List.set_cons_succ]
   have hn128:=HN128.out
   have ek:IntKind.i64.wrap ((k:Int) + 1) = (k:Int) + 1:=IntWalk.i64_in _ (by omega)
   have ek':wrap64 ((k:Int) + 1) = (k:Int) + 1:=IntWalk.wrap64_in _ (by omega)
   have c0:=aa q1 0
   have c0f:=blk_free q1 0
   have eb:=aa q3.b1 0
   have g1:(X.setCell ⟨nb,0,none⟩ (.int .i64 ((k:Int) + 1))).heap[nb]? = some (.cells #[.int .i64 ((k:Int) + 1)] 3 (0,0)):=heap_setCell_same X nb 0 _ _ _ q1
   have g2:∀ b,b≠nb→(X.setCell ⟨nb,0,none⟩ (.int .i64 ((k:Int) + 1))).heap[b]? = X.heap[b]?:=fun b hb => heap_setCell_other X ⟨nb,0,none⟩ b _ (fun e => hb e)
   have gb1:=(g2 b1 o7.symm).trans q3.b1
   have gb2:=(g2 b2 o8.symm).trans q3.b2
   have gk:=keepX_set (ex:=fun i => i = nb∨i = b2) X nb (.int .i64 ((k:Int) + 1)) (.inl rfl)
   have gB:Below w.heap.size w (X.setCell ⟨nb,0,none⟩ (.int .i64 ((k:Int) + 1))):=bK q3.bl (grownBy_setCell' X nb _) o6 q3.bl.size
   have gM:∀ r∈rs,(X.setCell ⟨nb,0,none⟩ (.int .i64 ((k:Int) + 1))).heap[r]? = some (.deferred (some [])):=fun r hr => (g2 r (fun e => by have h1:=q4 r hr; rw [e,q1] at h1; cases h1)).trans (q4 r hr)
   by_cases hkn:k = n
   case pos =>
    have f3:decide ((n:Int) < (k:Int) + 1) = true:=by simp; clear ek ek'; omega
    have g3:=keepX_set (ex:=fun i => i = nb∨i = b2) (X.setCell ⟨nb,0,none⟩ (.int .i64 ((k:Int) + 1))) b2 (.int .i64 16) (.inr rfl)
    have HF:Hid (n≤k∧IxL b2 w rs ga ((X.setCell ⟨nb,0,none⟩ (.int .i64 ((k:Int) + 1))).setCell ⟨b2,0,none⟩ (.int .i64 16))∧KeepX (fun i => i = nb∨i = b2) X ((X.setCell ⟨nb,0,none⟩ (.int .i64 ((k:Int) + 1))).setCell ⟨b2,0,none⟩ (.int .i64 16))) :=
     qH ⟨by rw [hkn]; exact Nat.le_refl _,⟨heap_setCell_same _ b2 0 _ _ _ gb2,bK gB (grownBy_setCell' _ b2 _) HB2.out gB.size,fun r hr => (heap_setCell_other _ ⟨b2,0,none⟩ r _ (fun e => by have e1:b2 = r:=e.symm; have h1:=gM r hr; rw [<- e1,gb2] at h1; cases h1)).trans (gM r hr),by rw [g3.size,gk.size]; exact q5⟩,gk.trans g3⟩
    have c1:=aa g1 0
    have e1:=aa gb1 0
    have e2:=aa gb2 0
    have e2f:=blk_free gb2 0
    clear hkn g1 g2 gb1 gb2 gk gB gM g3 q1 q2 q3 q4 q5 hn128
    gi_wp2_with fail
    exact HF.out
   have f3:decide ((n:Int) < (k:Int) + 1) = false:=by simp; clear ek ek'; omega
   have HF:Hid (InL nb n G (.slice (some ⟨b3,o3,none⟩) n cp) l b1 b2 w rs ga (k + 1) (X.setCell ⟨nb,0,none⟩ (.int .i64 ((k:Int) + 1)))∧KeepX (fun i => i = nb∨i = b2) X (X.setCell ⟨nb,0,none⟩ (.int .i64 ((k:Int) + 1)))) :=
    qH ⟨⟨g1,by clear ek ek' f3; omega,⟨gb1,gb2,gB⟩,gM,by rw [gk.size]; exact q5⟩,gk⟩
   have c1:=aa g1 0
   have e1:=aa gb1 0
   clear hkn g1 g2 gb1 gb2 gk gB gM q1 q2 q3 q4 q5 hn128
   gi_wp2_with fail
   exact HF.out
  case done =>
   rintro k X hV ⟨q1,q2,q3,q4,q5⟩ hD hzX
   have hc0:cycC l i = 0:=by rw [HCY.out,hV]; rfl
   have HF:Hid (V = allR (cycC l) (n - (i + 1)) (i + 1)):=qH (by rw [HT2.out,if_neg (by rw [hc0]; decide)])
   have HXF:Hid (Bx2 G (.slice (some ⟨b3,o3,none⟩) n cp) l b1 b2 w X):=qH q3
   have HND2:Hid ((w3.heap.size::rs).Nodup):=qH (List.nodup_cons.2 ⟨fun h => by have:=o5 _ h; omega,HND.out⟩)
   have HMK3:Hid (∀ r∈w3.heap.size::rs,X.heap[r]? = some (.deferred (some []))):=qH (fun r hr => by
    rcases List.mem_cons.1 hr with rfl | h
    ·exact hD
    exact q4 r h)
   have HRS2:Hid (∀ r∈w3.heap.size::rs,w.heap.size≤r∧r≠b2):=qH (fun r hr => by
    rcases List.mem_cons.1 hr with rfl | h
    ·exact ⟨by omega,by omega⟩
    exact HRS.out r h)
   clear q1 q2 q3 q4 q5 hD hzX hV hc0 h3A h3B hb3 hs3 hX3 hN3 hM3 o1 o2 o3' o4 o5 o6 o7 o8 o9 o10 z0 eb
   simp only [Exit.inBlock,Exit.then]
   go_wp2_with fail
   refine ⟨⟨i + 1,w3.heap.size::rs,?_⟩,by simp [intOf]; omega⟩
   repeat apply Exists.intro
   exact ⟨rfl,by omega,HF,HXF,HND2,HMK3,HRS2⟩
  rintro X hV ⟨q1,q2,q4,q5⟩ hD hzX
  have hc1:cycC l i = 16:=by rw [HCY.out,hV]; rfl
  have hVV:V = 16:=by rw [HT2.out,hc1]; rfl
  refine wpIn_ret ?_
  (try simp only [Exit.inBlock,Exit.then])
  refine post_ret (rs:=w3.heap.size::rs) rfl (List.nodup_cons.2 ⟨fun h => by have:=o5 _ h; omega,HND.out⟩) (fun r hr => ?_) q1 hVV q2 (fun r hr => ?_)
  ·rcases List.mem_cons.1 hr with rfl | h
   ·exact hD
   exact q4 r h
  rcases List.mem_cons.1 hr with rfl | h
  ·exact ⟨by omega,by omega⟩
  exact HRS.out r h
 have hlt':¬ (i:Int) < (n:Int):=by omega
 have HVV:Hid (V = 0):=qH (by rw [HT.out,show n - i = 0 by omega]; rfl)
 obtain ⟨hs1,hs2⟩:=HX.out.set HB2.out 0
 have es:=aa HX.out.b2 0
 have fs:=blk_free HX.out.b2 0
 have HF:=qH hs1
 have HF2:=qH hs2
 have HF3:Hid (∀ r∈rs,(wr.setCell ⟨b2,0,none⟩ (.int .i64 0)).heap[r]? = some (.deferred (some []))):=qH (fun r hr => (heap_setCell_other wr ⟨b2,0,none⟩ r _ (fun e => (HRS.out r hr).2 e)).trans (HMK.out r hr))
 clear hs1 hs2 hlt hin HT
 go_wp2_with fail
 (try simp only [Exit.inBlock,Exit.then])
 exact post_ret rfl HND.out HF3.out HF.out HVV.out HF2.out HRS.out
end Go.Proofs.YtmhhcfceikcfbaaGreat
