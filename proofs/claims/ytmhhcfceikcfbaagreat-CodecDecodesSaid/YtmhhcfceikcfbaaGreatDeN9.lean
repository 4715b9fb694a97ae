/- Walks: a template scanned. -/
import Derived.Test.YtmhhcfceikcfbaaGreatDeN6
namespace Go.Proofs.YtmhhcfceikcfbaaGreat
open Go.RowKit
set_option maxRecDepth 100000
set_option maxHeartbeats 4000000
def stepQ (s:ByteArray) (q:ScQ):ScQ:=if (s[q.at_.toNat]!) = 37 then pctQ s q.at_.toNat q else ⟨q.at_ + 1,q.lit++[s[q.at_.toNat]!],q.L,q.pl,q.e⟩
def loopQ (s:ByteArray):Nat→ScQ→ScQ
 | 0,q => q
 | n + 1,q => if q.at_ < (s.size:Int)∧q.e = 0 then loopQ s n (stepQ s q) else q
def scanQ (s:ByteArray) (q:ScQ):ScQ:=if (a8 (loopQ s s.size q)).e = 0∧9 < (a8 (loopQ s s.size q)).pl then errQ (a8 (loopQ s s.size q)) 9 else a8 (loopQ s s.size q)
structure InvQ (k:Nat) (q:ScQ):Prop where
 at_:q.at_ = (k:Int)
 lit:q.lit.length≤k
 L:q.L.length≤2 * k
 pl:0≤q.pl∧q.pl≤k
theorem flush_inv {k:Nat} {q:ScQ} (_h:InvQ k q):(a8 q).at_ = q.at_∧(a8 q).lit.length = 0∧(a8 q).L.length≤q.L.length + 1∧(a8 q).pl = q.pl∧(a8 q).e = q.e:=by
 unfold a8
 split
 ·rename_i h0
  exact ⟨rfl,by rw [h0]; rfl,by omega,rfl,rfl⟩
 exact ⟨rfl,rfl,by simp,rfl,rfl⟩
theorem place_inv {k k':Nat} {q:ScQ} (h:InvQ k q) (d:UInt8) (p:Bool) (a:Int) (ha:a = (k':Int)) (hk:k < k'):InvQ k' (atQ (placeQ q d p) a):=by
 obtain ⟨h1,h2,h3,h4,h5⟩:=flush_inv h
 have:=h.pl
 have:=h.L
 refine ⟨ha,?_,?_,?_⟩
 ·show (a8 q).lit.length≤k'
  omega
 ·show ((a8 q).L++[_]).length≤2 * k'
  rw [List.length_append]
  simp only [List.length_cons,List.length_nil]
  omega
 show 0≤(a8 q).pl + 1∧(a8 q).pl + 1≤k'
 omega
theorem pfx_size {a b:ByteArray} (h:pfxB a b = true):b.size≤a.size:=by
 unfold pfxB at h
 split at h
 ·assumption
 cases h
theorem step_inv {s:ByteArray} {k:Nat} {q:ScQ} (h:InvQ k q) (hk:k < s.size) (he:q.e = 0):∃ k',InvQ k' (stepQ s q)∧k'≤s.size∧(k < k'∨(k' = k∧(stepQ s q).e≠0)):=by
 have hat:q.at_.toNat = k:=by rw [h.at_]; simp
 have:=h.pl
 have:=h.L
 have:=h.lit
 unfold stepQ
 rw [hat]
 split
 ·unfold pctQ
  split
  ·rename_i h1
   have:=pfx_size h1
   have e2:(s.extract k s.size).size = s.size - k:=by simp
   have e3:pp.size = 2:=rfl
   refine ⟨k + 2,⟨by push_cast; rfl,by simp; omega,by simp only; omega,by simp only; omega⟩,by omega,.inl (by omega)⟩
  split
  ·rename_i h1 h2
   obtain ⟨hlt,_⟩:=digB_at h2
   exact ⟨k + 2,place_inv h _ _ _ (by omega) (by omega),by omega,.inl (by omega)⟩
  split
  ·rename_i h1 h2 h3
   rw [Bool.and_eq_true] at h3
   obtain ⟨hlt,_⟩:=digB_at h3.2
   exact ⟨k + 3,place_inv h _ _ _ (by omega) (by omega),by omega,.inl (by omega)⟩
  exact ⟨k,⟨h.at_,h.lit,h.L,h.pl⟩,by omega,.inr ⟨rfl,by simp [errQ]⟩⟩
 refine ⟨k + 1,⟨by rw [h.at_]; push_cast; rfl,by simp; omega,by simp only; omega,by simp only; omega⟩,by omega,.inl (by omega)⟩
def muQ (c n:Nat) (w:World):Nat:=match w.heap[c]? with
 | some (.cells cs _ _) => 2 * (n - (intOf (cs.getD 1 undef)).toNat) + (if intOf (cs.getD 6 undef) = 0 then 1 else 0)
 | _ => 0
theorem muQ_at {c:Nat} {s:ByteArray} {q:ScQ} {pv bv lv:Value} {w:World} (h:ScAt c s q pv bv lv w) (n:Nat):muQ c n w = 2 * (n - q.at_.toNat) + (if q.e = 0 then 1 else 0):=by
 unfold muQ
 rw [h.blk]
 rfl
theorem muQ_lt {c:Nat} {s:ByteArray} {q q':ScQ} {k k':Nat} {pv bv lv pv' bv' lv':Value} {w w':World} (h:ScAt c s q pv bv lv w) (h':ScAt c s q' pv' bv' lv' w') (ha:q.at_ = (k:Int)) (ha':q'.at_ = (k':Int)) (he:q.e = 0) (hk:k < s.size) (hk':k'≤s.size) (hd:k < k'∨(k' = k∧q'.e≠0)):muQ c s.size w' < muQ c s.size w:=by
 rw [muQ_at h,muQ_at h',ha,ha',if_pos he]
 simp only [Int.toNat_natCast]
 split
 ·rcases hd with hd | ⟨_,hd⟩
  ·omega
  exact absurd ‹_› hd
 omega
theorem loop_step {s:ByteArray} {n k:Nat} {q:ScQ} (ha:q.at_ = (k:Int)) (hk:k < s.size) (he:q.e = 0) (hn:s.size - k≤n):loopQ s n q = loopQ s (n - 1) (stepQ s q):=by
 obtain ⟨m,rfl⟩:∃ m,n = m + 1:=⟨n - 1,by omega⟩
 rw [loopQ,if_pos ⟨by omega,he⟩]
 rfl
theorem loop_end {s:ByteArray} {n:Nat} {q:ScQ} (h:¬ (q.at_ < (s.size:Int)∧q.e = 0)):loopQ s n q = q:=by
 cases n with
 | zero => rfl
 | succ n => rw [loopQ,if_neg h]
def RndQ (c:Nat) (s:ByteArray) (R:ScQ) (w wr:World):Prop:=∃ (k n:Nat) (q:ScQ) (pv bv lv:Value),Hid (R = loopQ s n q)∧InvQ k q∧k≤s.size∧(q.e = 0→s.size - k≤n)∧ScAt c s q pv bv lv wr∧Hid (Below c w wr)
theorem scan225 (c:Nat) (s:ByteArray) (q0:ScQ) (pv bv lv:Value) (w:World) (h:ScAt c s q0 pv bv lv w) (h0:InvQ 0 q0) (hs:s.size≤64):Calls Tryz.prog 225 #[.pointer (some ⟨c,0,none⟩)] w (RetS c s (scanQ s q0) w):=by
 obtain ⟨X,hX⟩:=gX (loopQ s s.size q0)
 have HRes:=qH (show scanQ s q0 = if (a8 X).e = 0∧9 < (a8 X).pl then errQ (a8 X) 9 else a8 X by unfold scanQ; rw [hX])
 have hat0:=h0.at_
 have HI:RndQ c s X w w:=⟨0,s.size,q0,_,_,_,qH hX,h0,by omega,fun _ => by omega,h,qH (Below.refl c w)⟩
 have hcw:c < w.heap.size:=ae h.blk
 clear hX h h0 hat0
 go_enter Tryz.func225,Tryz.ntmps225
 go_wp2_with fail
 go_loopw [] (fun wr => RndQ c s X w wr) (fun wr => muQ c s.size wr)
 case atStart => exact HI
 obtain ⟨k,n,q,pv,bv,lv,HX,hI,hks,hen,hA,HB⟩:=hrel
 clear HI
 have hcb:=hA.blk
 rw [hI.at_] at hcb
 have HA:=qH hA
 have HI:=qH hI
 have HE:=qH hen
 have HBk:=qH (Below.refl wr.heap.size wr)
 obtain ⟨qq,hqq⟩:=gX ((decide (k < s.size) && decide (q.e = 0)))
 have HQQ:=qH hqq
 clear hA hI hen hqq
 go_upto_region 0 with fail
 go_cut [18] from 2 to 17 (fun bv2 wc => bv2 = .bool qq∧wr.drew = wc)
 case first =>
  by_cases p1:k < s.size
  ·have f1:(k:Int) < (s.size:Int):=by omega
   have f2:decide ((k:Int) < (s.size:Int)) = true:=by simpa using p1
   by_cases p2:q.e = 0
   ·have f3:(q.e == 0) = true:=by simpa using p2
    have f4:decide (q.e = 0) = true:=by simpa using p2
    have dF:=qH (show qq = true by rw [HQQ.out]; simp [p1,p2])
    replace hcb:wr.drew.heap[c]? = some (.cells #[.string s,.int .i64 (k:Int),pv,bv,lv,.int .i64 q.pl,.int .i64 q.e] 307 (0,0)):=hcb
    replace HBk:=qH HBk.out.drew
    refine aI (S:=fun w' => w'.heap[c]? = some (.cells #[.string s,.int .i64 (k:Int),pv,bv,lv,.int .i64 q.pl,.int .i64 q.e] 307 (0,0))) [(true,0),(true,1),(true,2),(true,3),(true,4),(true,5),(true,6),(true,7),(true,8),(true,9),(true,10),(true,11),(true,12),(true,13),(true,14),(true,15),(true,16)] (by kernel_rfl) (by kernel_rfl) hcb ?_
    simp only [aO,List.getElem?_cons_succ,List.getElem?_cons_zero]
    refine gd1p c 0 ?_
    refine gd1p c 0 ?_
    refine gd1p c 1 ?_
    refine gd1i (k:Int) ?_ (fun w' hS => by have q0:=aa hS 1; go_simp)
    refine gd1p c 0 ?_
    refine gd1p c 0 ?_
    refine gd1p c 0 ?_
    refine gd1 (.string s) ?_ (fun w' hS => by have q0:=aa hS 0; go_simp)
    refine gd1i (s.size:Int) ?_
    refine gd1b true ?_
    refine gd1b true ?_
    refine gd1p c 0 ?_
    refine gd1p c 0 ?_
    refine gd1p c 6 ?_
    refine gd1i (q.e) ?_ (fun w' hS => by have q0:=aa hS 6; go_simp)
    refine gd1b true ?_
    refine gd1b true ?_
    refine bF ?_
    go_wp2_with fail
    go_meet
    exact ⟨by rw [dF.out],rfl⟩
   have f3:(q.e == 0) = false:=by rw [beq_eq_false_iff_ne]; exact p2
   have f4:decide (q.e = 0) = false:=by simpa using p2
   have dF:=qH (show qq = false by rw [HQQ.out]; simp [p2])
   replace hcb:wr.drew.heap[c]? = some (.cells #[.string s,.int .i64 (k:Int),pv,bv,lv,.int .i64 q.pl,.int .i64 q.e] 307 (0,0)):=hcb
   replace HBk:=qH HBk.out.drew
   refine aI (S:=fun w' => w'.heap[c]? = some (.cells #[.string s,.int .i64 (k:Int),pv,bv,lv,.int .i64 q.pl,.int .i64 q.e] 307 (0,0))) [(true,0),(true,1),(true,2),(true,3),(true,4),(true,5),(true,6),(true,7),(true,8),(true,9),(true,10),(true,11),(true,12),(true,13),(true,14),(true,15),(true,16)] (by kernel_rfl) (by kernel_rfl) hcb ?_
   simp only [aO,List.getElem?_cons_succ,List.getElem?_cons_zero]
   refine gd1p c 0 ?_
   refine gd1p c 0 ?_
   refine gd1p c 1 ?_
   refine gd1i (k:Int) ?_ (fun w' hS => by have q0:=aa hS 1; go_simp)
   refine gd1p c 0 ?_
   refine gd1p c 0 ?_
   refine gd1p c 0 ?_
   refine gd1 (.string s) ?_ (fun w' hS => by have q0:=aa hS 0; go_simp)
   refine gd1i (s.size:Int) ?_
   refine gd1b true ?_
   refine gd1b true ?_
   refine gd1p c 0 ?_
   refine gd1p c 0 ?_
   refine gd1p c 6 ?_
   refine gd1i (q.e) ?_ (fun w' hS => by have q0:=aa hS 6; go_simp)
   refine gd1b false ?_
   refine gd1b false ?_
   refine bF ?_
   go_wp2_with fail
   go_meet
   exact ⟨by rw [dF.out],rfl⟩
  have f1:¬ (k:Int) < (s.size:Int):=by omega
  have f2:decide ((k:Int) < (s.size:Int)) = false:=by simpa using p1
  have dF:=qH (show qq = false by rw [HQQ.out]; simp [p1])
  replace hcb:wr.drew.heap[c]? = some (.cells #[.string s,.int .i64 (k:Int),pv,bv,lv,.int .i64 q.pl,.int .i64 q.e] 307 (0,0)):=hcb
  replace HBk:=qH HBk.out.drew
  refine aI (S:=fun w' => w'.heap[c]? = some (.cells #[.string s,.int .i64 (k:Int),pv,bv,lv,.int .i64 q.pl,.int .i64 q.e] 307 (0,0))) [(true,0),(true,1),(true,2),(true,3),(true,4),(true,5),(true,6),(true,7),(true,8),(true,9),(true,10),(true,11),(true,12),(true,13),(true,14),(true,15),(true,16)] (by kernel_rfl) (by kernel_rfl) hcb ?_
  simp only [aO,List.getElem?_cons_succ,List.getElem?_cons_zero]
  refine gd1p c 0 ?_
  refine gd1p c 0 ?_
  refine gd1p c 1 ?_
  refine gd1i (k:Int) ?_ (fun w' hS => by have q0:=aa hS 1; go_simp)
  refine gd1p c 0 ?_
  refine gd1p c 0 ?_
  refine gd1p c 0 ?_
  refine gd1 (.string s) ?_ (fun w' hS => by have q0:=aa hS 0; go_simp)
  refine gd1i (s.size:Int) ?_
  refine gd1b false ?_
  refine gd1b false ?_
  refine aA rfl ?_
  simp only [Act.put,PutA,PutZ,PutS]
  refine aA rfl ?_
  simp only [Act.put,PutA,PutZ,PutS]
  refine aA rfl ?_
  simp only [Act.put,PutA,PutZ,PutS]
  refine aA rfl ?_
  simp only [Act.put,PutA,PutZ,PutS]
  refine aA rfl ?_
  simp only [Act.put,PutA,PutZ,PutS]
  refine gd1b false ?_
  refine bF ?_
  go_wp2_with fail
  go_meet
  exact ⟨by rw [dF.out],rfl⟩
 obtain ⟨rfl,rfl⟩:=hcut
 cases qq
 case true =>
  have hk:k < s.size:=by have:=HQQ.out; simp at this; exact this.1
  have hE0:Hid (q.e = 0):=qH (by have:=HQQ.out; simp at this; exact this.2)
  clear HQQ
  obtain ⟨d,hd⟩:=gX (s[k])
  have hgd:s[k] = d:=hd.symm
  have hdb:s[k]! = d:=(getElem!_pos s k hk).trans hd.symm
  have HDB:=qH hdb
  have f1:(k:Int) < (s.size:Int):=by omega
  have f2:¬ (k:Int) < 0:=by omega
  obtain ⟨qd,hqd⟩:=gX (decide (d = 37))
  have f3:((d.toNat:Int) == 37) = qd:=by
   rw [hqd]
   by_cases p:d = 37
   ·subst p; rfl
   have:d.toNat≠37:=fun e => p (UInt8.toNat_inj.1 e)
   rw [decide_eq_false p,beq_eq_false_iff_ne]
   omega
  have f4:(d.toNat == 37) = qd:=by
   rw [<- f3]
   by_cases p:d.toNat = 37
   ·rw [p]; rfl
   rw [beq_eq_false_iff_ne.2 p,eq_comm,beq_eq_false_iff_ne]
   omega
  have f5:decide (d.toNat = 37) = qd:=by rw [<- f4]; rfl
  have HQD:=qH hqd
  have HST:=qH (step_inv HI.out hk hE0.out)
  have HLP:=qH (HX.out.trans (loop_step HI.out.at_ hk hE0.out (HE.out hE0.out)))
  have e1:IntKind.i64.wrap ((k:Int) + 1) = (k:Int) + 1:=IntWalk.i64_in _ (by omega)
  have e2:wrap64 ((k:Int) + 1) = (k:Int) + 1:=IntWalk.wrap64_in _ (by omega)
  clear hd hdb hqd
  go_upto_region 1 with fail
  replace hcb:wr.drew.drew.heap[c]? = some (.cells #[.string s,.int .i64 (k:Int),pv,bv,lv,.int .i64 q.pl,.int .i64 q.e] 307 (0,0)):=hcb
  replace HBk:=qH HBk.out.drew
  refine ao (S:=fun w' => w'.heap[c]? = some (.cells #[.string s,.int .i64 (k:Int),pv,bv,lv,.int .i64 q.pl,.int .i64 q.e] 307 (0,0))) [(true,0),(true,1),(true,2),(true,3),(true,4),(true,5),(true,6),(true,7),(false,8),(true,9)] (by kernel_rfl) (by kernel_rfl) hcb ?_
  simp only [aO,List.getElem?_cons_succ,List.getElem?_cons_zero]
  refine sq2p c 0 ?_
  refine sq2p c 0 ?_
  refine sq2p c 0 ?_
  refine sq2 (.string s) ?_ (fun w' hS => by have q0:=aa hS 0; go_simp)
  refine sq2p c 0 ?_
  refine sq2p c 0 ?_
  refine sq2p c 1 ?_
  refine sq2i (k:Int) ?_ (fun w' hS => by have q0:=aa hS 1; go_simp)
  refine sq1 (.int .u8 (d.toNat:Int)) ?_ (hS:=hcb)
  refine sq2b qd ?_
  refine ad ?_
  clear f3 f4 f5
  cases qd
  case true =>
   have HP:Hid (stepQ s q = pctQ s k q):=qH (by
    have hat:q.at_.toNat = k:=by rw [HI.out.at_]; simp
    unfold stepQ
    rw [hat,HDB.out,if_pos (of_decide_eq_true HQD.out.symm)])
   have C:=qH (percent230 c s q pv bv lv k wr.drew.drew HA.out.drew.drew HI.out.at_ hk (by omega) (by have:=HI.out.lit; omega) (by have:=HI.out.L; omega) (by have:=HI.out.pl; omega))
   clear hcb
   go_wp2_with fail
   refine C.out.mono ?_
   rintro e w1 ⟨rfl,⟨pv2,bv2,lv2,h1⟩,hb1⟩
   rw [<- HP.out] at h1
   obtain ⟨k',hI',hk',hd'⟩:=HST.out
   have HF:Hid (RndQ c s X w w1∧muQ c s.size w1 < muQ c s.size wr):=qH ⟨⟨k',n - 1,stepQ s q,_,_,_,HLP,hI',hk',fun h => by have:=HE.out hE0.out; rcases hd' with hd' | ⟨_,hd'⟩; omega; exact absurd h hd',h1,qH (HB.out.drew.drew.trans hb1)⟩,muQ_lt HA.out h1 HI.out.at_ hI'.at_ hE0.out hk hk' hd'⟩
   clear C h1 hI' hk' hd' hb1
   go_wp2_with fail
   exact HF.out
  have HP:Hid (stepQ s q = ⟨(k:Int) + 1,q.lit++[d],q.L,q.pl,q.e⟩):=qH (by
   have hat:q.at_.toNat = k:=by rw [HI.out.at_]; simp
   unfold stepQ
   rw [hat,HDB.out,if_neg (of_decide_eq_false HQD.out.symm),HI.out.at_])
  have C:=qH (byte231 c s q pv bv lv d wr.drew.drew.drew HA.out.drew.drew.drew (by have:=HI.out.lit; omega))
  go_upto_region 3 with fail
  refine ao (S:=fun w' => w'.cell? ⟨c,0,none⟩ = some (.string s)∧w'.cell? ⟨c,1,none⟩ = some (.int .i64 (k:Int))) [(true,0),(true,1),(true,2),(true,3),(true,4),(true,5),(true,6),(true,7),(true,8),(true,9),(true,10),(false,11),(false,12)] (by kernel_rfl) (by kernel_rfl) ⟨aa hcb 0,aa hcb 1⟩ ?_
  simp only [aO,List.getElem?_cons_succ,List.getElem?_cons_zero]
  refine sq2p c 0 ?_
  refine sq2p c 0 ?_
  refine sq2p c 2 ?_
  refine sq2p c 0 ?_
  refine sq2p c 0 ?_
  refine sq2p c 0 ?_
  refine sq2 (.string s) ?_ (fun w' hS => by have q0:=hS.1; go_simp)
  refine sq2p c 0 ?_
  refine sq2p c 0 ?_
  refine sq2p c 1 ?_
  refine sq2i (k:Int) ?_ (fun w' hS => by have q0:=hS.2; go_simp)
  refine sq1 (.int .u8 (d.toNat:Int)) ?_ (hS:=⟨aa hcb 0,aa hcb 1⟩)
  refine af 231 #[.pointer (some ⟨c,2,none⟩),.int .u8 (d.toNat:Int)] (by go_simp) ?_
  refine C.out.mono ?_
  rintro e w1 ⟨rfl,⟨pv2,bv2,lv2,h1⟩,hb1⟩
  have HB1:Hid (Below c w w1):=qH (HB.out.drew.drew.drew.trans hb1)
  have hc1:=h1.blk
  rw [show (ScQ.mk q.at_ (q.lit++[d]) q.L q.pl q.e).at_ = (k:Int) from HI.out.at_] at hc1
  have H1:=qH h1
  clear C hb1 hcb h1
  refine ⟨_,rfl,⟨aa hc1 0,aa hc1 1⟩,?_⟩
  simp only [Act.put,PutA,PutZ,PutS]
  refine ad ?_
  go_upto_region 4 with fail
  refine ac (by rfl) ?_
  simp only [List.map]
  refine sq1p c 0 ?_
  refine sq1p c 0 ?_
  refine sq1p c 1 ?_
  refine sq1i (k:Int) ?_ (by have q0:=aa hc1 1; go_simp)
  refine sq1i (((k:Int) + 1)) ?_
  refine sq1p c 0 ?_
  refine sq1p c 1 ?_
  refine aj 3 _ _ rfl rfl c 1 307 _ #[.string s,.int .i64 ((k:Int) + 1),pv2,bv2,lv2,.int .i64 q.pl,.int .i64 q.e] [.int .i64 ((k:Int) + 1)] rfl rfl hc1 sz3 (one1 rfl) rfl (by simp) ?_
  intro wm hst hgr
  refine ⟨trivial,?_⟩
  obtain ⟨k',hI',hk',hd'⟩:=HST.out
  have h2:ScAt c s (stepQ s q) pv2 bv2 lv2 wm:=by rw [HP.out]; exact H1.out.move _ hst hgr
  have HF:Hid (RndQ c s X w wm∧muQ c s.size wm < muQ c s.size wr):=qH ⟨⟨k',n - 1,stepQ s q,_,_,_,HLP,hI',hk',fun h => by have:=HE.out hE0.out; rcases hd' with hd' | ⟨_,hd'⟩; omega; exact absurd h hd',h2,qH (below_c HB1.out hgr (ae hc1))⟩,muQ_lt HA.out h2 HI.out.at_ hI'.at_ hE0.out hk hk' hd'⟩
  clear hst hgr hc1 hI' hk' hd' h2
  refine ad ?_
  go_wp2_with fail
  exact HF.out
 have hX:X = q:=HX.out.trans (loop_end (fun e => by have:=HQQ.out; rw [HI.out.at_] at e; simp at this; exact this (by omega) e.2))
 obtain ⟨_,_,hfL,hfp,hfe⟩:=flush_inv HI.out
 rw [hX] at HRes
 have HF0:=qH HRes.out
 have C:=qH (flush232 c s q pv bv lv wr.drew HA.out.drew (by have:=HI.out.L; omega))
 obtain ⟨f,hf⟩:=gX (a8 q)
 rw [<- hf] at C HF0 HRes
 clear hX HQQ HX hcb hfL hfp hfe hf
 go_wp2_with fail
 refine C.out.mono ?_
 rintro e w1 ⟨rfl,⟨pv2,bv2,lv2,h1⟩,hb1⟩
 have HB1:Hid (Below c w w1):=qH (HB.out.drew.trans hb1)
 have H1:=qH h1
 have z4:=aa h1.blk 5
 have z5:=aa h1.blk 6
 have hc1:=h1.blk
 clear C h1 hb1
 by_cases p1:f.e = 0
 case neg =>
  have g1:(f.e == 0) = false:=by rw [beq_eq_false_iff_ne]; exact p1
  have HF:Hid (ScP c s (scanQ s q0) w w1):=qH (by rw [HRes.out,if_neg (fun e => p1 e.1)]; exact ⟨⟨_,_,_,H1.out⟩,HB1.out⟩)
  clear hc1 p1
  go_wp2_with fail
  go_end0
  exact ⟨rfl,HF.out⟩
 have g1:(f.e == 0) = true:=by simpa using p1
 by_cases p2:9 < f.pl
 case neg =>
  have g2:decide (9 < f.pl) = false:=by simpa using p2
  have HF:Hid (ScP c s (scanQ s q0) w w1):=qH (by rw [HRes.out,if_neg (fun e => p2 e.2)]; exact ⟨⟨_,_,_,H1.out⟩,HB1.out⟩)
  clear hc1 p1 p2
  go_wp2_with fail
  go_end0
  exact ⟨rfl,HF.out⟩
 have g2:decide (9 < f.pl) = true:=by simpa using p2
 have HR2:=qH (HRes.out.trans (if_pos ⟨p1,p2⟩))
 clear p1 p2
 go_upto_region 7 with fail
 refine ac (by rfl) ?_
 simp only [List.map]
 refine sq1p c 0 ?_
 refine sq1p c 0 ?_
 refine sq1p c 6 ?_
 refine aj 23 _ _ rfl rfl c 6 307 _ #[.string s,.int .i64 f.at_,pv2,bv2,lv2,.int .i64 f.pl,.int .i64 9] [.int .i64 9] rfl rfl hc1 sz23 (one1 rfl) rfl (by simp) ?_
 intro wm hst hgr
 refine ⟨trivial,?_⟩
 have HF:Hid (ScP c s (scanQ s q0) w wm):=qH (by
  rw [HR2.out]
  exact ⟨⟨_,_,_,H1.out.fail rfl hst hgr⟩,below_c HB1.out hgr (ae hc1)⟩)
 clear hst hgr hc1
 refine ad ?_
 go_wp2_with fail
 go_end0
 exact ⟨rfl,HF.out⟩
end Go.Proofs.YtmhhcfceikcfbaaGreat
