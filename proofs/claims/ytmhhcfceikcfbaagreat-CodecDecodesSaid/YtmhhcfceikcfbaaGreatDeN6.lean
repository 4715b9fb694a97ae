/- Walks: a place put into the parts; a digit looked for. -/
import Derived.Test.YtmhhcfceikcfbaaGreatDeN3
namespace Go.Proofs.YtmhhcfceikcfbaaGreat
open Go.RowKit
set_option maxRecDepth 100000
set_option maxHeartbeats 4000000
def placeQ (q:ScQ) (d:UInt8) (pl:Bool):ScQ:=⟨(a8 q).at_,(a8 q).lit,(a8 q).L++[((⟨#[]⟩:ByteArray),(d.toNat:Int) - 48,pl)],(a8 q).pl + 1,(a8 q).e⟩
theorem place234 (c:Nat) (s:ByteArray) (q:ScQ) (pv bv lv:Value) (d:UInt8) (pn:Bool) (w:World) (h:ScAt c s q pv bv lv w) (hL:q.L.length≤500) (hp:0≤q.pl∧q.pl≤1000) (hd:49≤d.toNat∧d.toNat≤57):Calls Tryz.prog 234 #[.pointer (some ⟨c,0,none⟩),.int .u8 (d.toNat:Int),.bool pn] w (RetS c s (placeQ q d pn) w):=by
 have CF:=qH (flush232 c s q pv bv lv w h (by omega))
 have hfl:(a8 q).L.length≤1000∧(a8 q).pl = q.pl:=by
  unfold a8
  split
  ·exact ⟨by omega,rfl⟩
  exact ⟨by simp; omega,rfl⟩
 obtain ⟨f,hf⟩:=gX (a8 q)
 rw [<- hf] at CF hfl
 obtain ⟨hfl,hfp⟩:=hfl
 have HQ:=qH (show placeQ q d pn = ⟨f.at_,f.lit,f.L++[((⟨#[]⟩:ByteArray),(d.toNat:Int) - 48,pn)],f.pl + 1,f.e⟩ by unfold placeQ; rw [hf])
 have e1:IntKind.u8.wrap ((d.toNat:Int) - 48) = (d.toNat:Int) - 48:=by
  simp only [IntKind.wrap,IntKind.bits,IntKind.signed]
  simp
  omega
 have e2:IntKind.i64.wrap (f.pl + 1) = f.pl + 1:=IntWalk.i64_in _ (by omega)
 have e3:wrap64 (f.pl + 1) = f.pl + 1:=IntWalk.wrap64_in _ (by omega)
 have e4:IntKind.i64.wrap ((d.toNat:Int) - 48) = (d.toNat:Int) - 48:=IntWalk.i64_in _ (by omega)
 have e5:wrap64 ((d.toNat:Int) - 48) = (d.toNat:Int) - 48:=IntWalk.wrap64_in _ (by omega)
 clear hf h hfp hp
 go_enter Tryz.func234,Tryz.ntmps234
 go_wp2_with fail
 refine CF.out.mono ?_
 rintro e w1 ⟨rfl,⟨pv2,bv2,lv2,h1⟩,hb1⟩
 have hcb:=h1.blk
 have HS:=qH h1
 obtain ⟨A,cp,hlv,_,_⟩:=Own.shape h1.prt
 subst hlv
 obtain ⟨LN,hLN⟩:=gX (f.L.length)
 rw [<- hLN] at hcb HS
 have hO:=HS.out.prt
 have HB1:=qH hb1
 clear CF h1 hb1 hLN
 go_upto_region 1 with fail
 refine ac (by rfl) ?_
 simp only [List.map]
 refine sq1p c 0 ?_
 refine sq1p c 0 ?_
 refine sq1p c 0 ?_
 refine sq1p c 4 ?_
 refine sq1 (.slice A LN cp) ?_ (by have q0:=aa hcb 4; go_simp)
 refine sq1 (.int .u8 (d.toNat:Int)) ?_
 refine sq1 (.int .u8 ((d.toNat:Int) - 48)) ?_
 refine sq1i (((d.toNat:Int) - 48)) ?_
 refine sq1b pn ?_
 refine sq1 (.agg #[.string ⟨#[]⟩,.int .i64 ((d.toNat:Int) - 48),.bool pn]) ?_
 refine au (.slice (some ⟨w1.heap.size,0,none⟩) 1 1) (w1.alloc (.cells #[.string ⟨#[]⟩,.int .i64 ((d.toNat:Int) - 48),.bool pn] 290)) (by go_simp) trivial ?_
 simp only [Act.put,PutA,PutZ,PutS]
 have hn:=heap_alloc_new w1 (.cells #[.string ⟨#[]⟩,.int .i64 ((d.toNat:Int) - 48),.bool pn] 290)
 have hb3:=ai hcb (ag w1 (.cells #[.string ⟨#[]⟩,.int .i64 ((d.toNat:Int) - 48),.bool pn] 290))
 have hO3:=hO.alloc (.cells #[.string ⟨#[]⟩,.int .i64 ((d.toNat:Int) - 48),.bool pn] 290)
 have hL3:=HS.out.lit.alloc (.cells #[.string ⟨#[]⟩,.int .i64 ((d.toNat:Int) - 48),.bool pn] 290)
 have hB3:Below c w (w1.alloc (.cells #[.string ⟨#[]⟩,.int .i64 ((d.toNat:Int) - 48),.bool pn] 290)):=HB1.out.trans ((ag w1 _).mono (Nat.le_of_lt (ae hcb)))
 obtain ⟨g,hg⟩:=gX (w1.heap.size)
 obtain ⟨w3,hw3⟩:=gX (w1.alloc (.cells #[.string ⟨#[]⟩,.int .i64 ((d.toNat:Int) - 48),.bool pn] 290))
 rw [<- hw3] at hn hb3 hO3 hL3 hB3 ⊢
 rw [<- hg] at hn ⊢
 clear hw3 hg hO
 refine sq_part _ _ rfl rfl c (.slice A LN cp) f.L rfl hO3 g ((⟨#[]⟩:ByteArray),(d.toNat:Int) - 48,pn) rfl hn hfl (Nat.le_of_lt (ae hb3)) ?_
 intro v' w4 hO4 hg4
 have hb4:w4.heap[c]? = some (.cells #[.string s,.int .i64 f.at_,pv2,bv2,.slice A LN cp,.int .i64 f.pl,.int .i64 f.e] 307 (0,0)):=(hg4.block c (ae hb3) (by rcases bx hO3 hb3 (by decide) with q | q; rw [q]; simp; exact fun e => q e.symm)).trans hb3
 have HB4:=qH (own_grown hB3 hO3 hg4 (Nat.le_of_lt (ae hb3)))
 have HL4:=qH (hL3.kept hg4 (own_two hL3 hO3 (by decide)))
 obtain ⟨A',c',rfl,_,_⟩:=Own.shape hO4
 have HO4:=qH hO4
 obtain ⟨N2,hN2⟩:=gX ((f.L++[((⟨#[]⟩:ByteArray),(d.toNat:Int) - 48,pn)]).length)
 rw [<- hN2] at HO4 ⊢
 clear hO3 hL3 hn hb3 hB3 hg4 hO4 hN2
 refine ⟨trivial,?_⟩
 simp only [Act.put,PutA,PutZ,PutS]
 refine sq1p c 0 ?_
 refine sq1p c 4 ?_
 refine aj 285 _ _ rfl rfl c 4 307 _ #[.string s,.int .i64 f.at_,pv2,bv2,(.slice A' N2 c'),.int .i64 f.pl,.int .i64 f.e] [.slice A' N2 c'] rfl rfl hb4 sz285 (one1 rfl) rfl (by simp) ?_
 intro w5 h5 g5
 refine ⟨trivial,?_⟩
 refine ad ?_
 have HB5:=qH (below_c HB4.out g5 (ae hb4))
 have HO5:=qH (HO4.out.kept g5 (bx HO4.out hb4 (by decide)))
 have HL5:=qH (HL4.out.kept g5 (bx HL4.out hb4 (by decide)))
 clear g5 hb4 HO4 HL4 HB4
 go_upto_region 2 with fail
 refine ac (by rfl) ?_
 simp only [List.map]
 refine sq1p c 0 ?_
 refine sq1p c 0 ?_
 refine sq1p c 5 ?_
 refine sq1i (f.pl) ?_ (by have q0:=aa h5 5; go_simp)
 refine sq1i (f.pl + 1) ?_
 refine sq1p c 0 ?_
 refine sq1p c 5 ?_
 refine aj 3 _ _ rfl rfl c 5 307 _ #[.string s,.int .i64 f.at_,pv2,bv2,(.slice A' N2 c'),.int .i64 (f.pl + 1),.int .i64 f.e] [.int .i64 (f.pl + 1)] rfl rfl h5 sz3 (one1 rfl) rfl (by simp) ?_
 intro w6 h6 g6
 refine ⟨trivial,?_⟩
 have HF:Hid (ScP c s (placeQ q d pn) w w6):=qH (by
  rw [HQ.out]
  exact ⟨⟨_,_,_,h6,HS.out.pv,HL5.out.kept g6 (bx HL5.out h5 (by decide)),HO5.out.kept g6 (bx HO5.out h5 (by decide))⟩,below_c HB5.out g6 (ae h5)⟩)
 clear h5 h6 g6
 refine ad ?_
 go_wp2_with fail
 go_end0
 exact ⟨rfl,HF.out⟩
def digB (s:ByteArray) (k:Nat):Bool:=match s[k]? with
 | some d => decide (49≤d.toNat) && decide (d.toNat≤57)
 | none => false
theorem digit233 (c:Nat) (s:ByteArray) (x1 x2 x3 x4 x5 x6:Value) (k:Nat) (w:World) (hb:w.heap[c]? = some (.cells #[.string s,x1,x2,x3,x4,x5,x6] 307 (0,0))):Calls Tryz.prog 233 #[.pointer (some ⟨c,0,none⟩),.int .i64 (k:Int)] w fun e w' => e = .returned (.bool (digB s k))∧w = w':=by
 have c0:=aa hb 0
 have HB:=qH hb
 clear hb
 by_cases h1:k < s.size
 ·have f1:(k:Int) < (s.size:Int):=by omega
  obtain ⟨d,hd⟩:=gX (s[k])
  have hg:s[k]? = some d:=by rw [hd]; exact getElem?_pos s k h1
  have hV:digB s k = (decide (49≤d.toNat) && decide (d.toNat≤57)):=by
   unfold digB
   rw [hg]
  have HV:=qH hV
  have e1:s[k] = d:=hd.symm
  clear hV hg hd
  by_cases h2:49≤d.toNat
  ·have g1:decide ((49:Int)≤(d.toNat:Int)) = true:=by simp; omega
   have g2:decide ((d.toNat:Int) < 49) = false:=by simp; omega
   by_cases h3:d.toNat≤57
   ·have g3:decide ((d.toNat:Int)≤57) = true:=by simp; omega
    have g4:decide ((57:Int) < (d.toNat:Int)) = false:=by simp; omega
    have HF:=qH (show digB s k = true by rw [HV.out]; simp [h2,h3])
    go_enter Tryz.func233,Tryz.ntmps233
    go_wp2_with fail
    go_ret
    exact ⟨by rw [HF.out]; rfl,rfl⟩
   have g3:decide ((d.toNat:Int)≤57) = false:=by simp; omega
   have g4:decide ((57:Int) < (d.toNat:Int)) = true:=by simp; omega
   have HF:=qH (show digB s k = false by rw [HV.out]; simp [h3])
   go_enter Tryz.func233,Tryz.ntmps233
   go_wp2_with fail
   go_ret
   exact ⟨by rw [HF.out]; rfl,rfl⟩
  have g1:decide ((49:Int)≤(d.toNat:Int)) = false:=by simp; omega
  have g2:decide ((d.toNat:Int) < 49) = true:=by simp; omega
  have HF:=qH (show digB s k = false by rw [HV.out]; simp [h2])
  go_enter Tryz.func233,Tryz.ntmps233
  go_wp2_with fail
  go_ret
  exact ⟨by rw [HF.out]; rfl,rfl⟩
 have f1:¬ (k:Int) < (s.size:Int):=by omega
 have hV:digB s k = false:=by
  unfold digB
  rw [getElem?_neg s k h1]
 have HF:=qH hV
 clear hV
 go_enter Tryz.func233,Tryz.ntmps233
 go_wp2_with fail
 go_ret
 exact ⟨by rw [HF.out]; rfl,rfl⟩
end Go.Proofs.YtmhhcfceikcfbaaGreat
namespace Go.Proofs.YtmhhcfceikcfbaaGreat
open Go.RowKit
set_option maxRecDepth 100000
set_option maxHeartbeats 4000000
def pfxB (a b:ByteArray):Bool:=if b.size≤a.size then ((a.extract 0 b.size).toList == b.toList) else false
theorem pfx166 (a b:ByteArray) (w:World):Calls Tryz.prog 166 #[.string a,.string b] w fun e w' => e = .returned (.bool (pfxB a b))∧w = w':=by
 by_cases h:b.size≤a.size
 ·have f1:decide ((b.size:Int)≤(a.size:Int)) = true:=by simp; omega
  have f2:decide ((a.size:Int) < (b.size:Int)) = false:=by simp; omega
  have f3:decide (b.size≤a.size) = true:=by simpa using h
  have f4:decide (a.size < b.size) = false:=by simp; omega
  obtain ⟨q,hq⟩:=gX (((a.extract 0 b.size).toList == b.toList))
  have HF:=qH (show pfxB a b = q by unfold pfxB; rw [if_pos h,hq])
  have fq:=hq.symm
  clear hq
  go_enter Tryz.func166,Tryz.ntmps166
  go_wp2_with fail
  go_ret
  exact ⟨by rw [HF.out]; rfl,rfl⟩
 have f1:decide ((b.size:Int)≤(a.size:Int)) = false:=by simp; omega
 have f2:decide ((a.size:Int) < (b.size:Int)) = true:=by simp; omega
 have f3:decide (b.size≤a.size) = false:=by simpa using h
 have f4:decide (a.size < b.size) = true:=by simp; omega
 have HF:=qH (show pfxB a b = false by unfold pfxB; rw [if_neg h])
 go_enter Tryz.func166,Tryz.ntmps166
 go_wp2_with fail
 go_ret
 exact ⟨by rw [HF.out]; rfl,rfl⟩
theorem pfx90 (a b:ByteArray) (w:World):Calls Tryz.prog 90 #[.string a,.string b] w fun e w' => e = .returned (.bool (pfxB a b))∧w = w':=by
 have C:=qH (pfx166 a b w)
 obtain ⟨q,hq⟩:=gX (pfxB a b)
 rw [<- hq] at C ⊢
 clear hq
 go_enter Tryz.func90,Tryz.ntmps90
 go_wp2_with fail
 refine C.out.mono ?_
 rintro e w1 ⟨rfl,rfl⟩
 clear C
 go_wp2_with fail
 go_ret
 exact ⟨rfl,rfl⟩
end Go.Proofs.YtmhhcfceikcfbaaGreat
namespace Go.Proofs.YtmhhcfceikcfbaaGreat
open Go.RowKit
set_option maxRecDepth 100000
set_option maxHeartbeats 4000000
abbrev pp:ByteArray:=⟨#[37,37]⟩
abbrev pd:ByteArray:=⟨#[37,100]⟩
def atQ (q:ScQ) (a:Int):ScQ:=⟨a,q.lit,q.L,q.pl,q.e⟩
def errQ (q:ScQ) (e:Int):ScQ:=⟨q.at_,q.lit,q.L,q.pl,e⟩
theorem digB_at {s:ByteArray} {k:Nat} (h:digB s k = true):∃ (hlt:k < s.size),s[k]! = s[k]∧49≤(s[k]).toNat∧(s[k]).toNat≤57:=by
 unfold digB at h
 by_cases hlt:k < s.size
 ·rw [getElem?_pos s k hlt] at h
  simp at h
  exact ⟨hlt,getElem!_pos s k hlt,h.1,h.2⟩
 rw [getElem?_neg s k hlt] at h
 cases h
def pctQ (s:ByteArray) (k:Nat) (q:ScQ):ScQ :=
 if pfxB (s.extract k s.size) pp = true then ⟨(k:Int) + 2,q.lit++[37],q.L,q.pl,q.e⟩ else
 if digB s (k + 1) = true then atQ (placeQ q (s[k + 1]!) false) ((k:Int) + 2) else
 if (pfxB (s.extract k s.size) pd && digB s (k + 2)) = true then atQ (placeQ q (s[k + 2]!) true) ((k:Int) + 3) else errQ q 14
theorem ScAt.move {c:Nat} {s:ByteArray} {q:ScQ} {pv bv lv:Value} {w w':World} (h:ScAt c s q pv bv lv w) (a:Int) (hb:w'.heap[c]? = some (.cells #[.string s,.int .i64 a,pv,bv,lv,.int .i64 q.pl,.int .i64 q.e] 307 (0,0))) (hg:w.grownBy w' (some c)):ScAt c s (atQ q a) pv bv lv w':=h.store a q.pl q.e hb h.pv hg
theorem ScAt.drew {c:Nat} {s:ByteArray} {q:ScQ} {pv bv lv:Value} {w:World} (h:ScAt c s q pv bv lv w):ScAt c s q pv bv lv w.drew:=⟨h.blk,h.pv,h.lit.drew,h.prt.drew⟩
theorem sz23:(Tryz.prog.info? 23).map (·.size) = some 1:=by kernel_rfl
theorem ScAt.fail {c:Nat} {s:ByteArray} {q:ScQ} {k:Int} {pv bv lv:Value} {w w':World} {e:Int} (h:ScAt c s q pv bv lv w) (hat:q.at_ = k) (hb:w'.heap[c]? = some (.cells #[.string s,.int .i64 k,pv,bv,lv,.int .i64 q.pl,.int .i64 e] 307 (0,0))) (hg:w.grownBy w' (some c)):ScAt c s (errQ q e) pv bv lv w':=h.store q.at_ q.pl e (by rw [hat]; exact hb) h.pv hg
theorem percent230 (c:Nat) (s:ByteArray) (q:ScQ) (pv bv lv:Value) (k:Nat) (w:World) (h:ScAt c s q pv bv lv w) (hat:q.at_ = (k:Int)) (hks:k < s.size) (hs:s.size≤1000) (hl:q.lit.length≤500) (hL:q.L.length≤400) (hp:0≤q.pl∧q.pl≤900):Calls Tryz.prog 230 #[.pointer (some ⟨c,0,none⟩)] w (RetS c s (pctQ s k q) w):=by
 have hcb:=h.blk
 rw [hat] at hcb
 have HS:=qH h
 have HB:=qH (Below.refl w.heap.size w)
 have hkI:¬ (k:Int) < 0:=by omega
 have hkS:(k:Int)≤(s.size:Int):=by omega
 have ek1:IntKind.i64.wrap ((k:Int) + 1) = (k:Int) + 1:=IntWalk.i64_in _ (by omega)
 have ek1':wrap64 ((k:Int) + 1) = (k:Int) + 1:=IntWalk.wrap64_in _ (by omega)
 have ek2:IntKind.i64.wrap ((k:Int) + 2) = (k:Int) + 2:=IntWalk.i64_in _ (by omega)
 have ek2':wrap64 ((k:Int) + 2) = (k:Int) + 2:=IntWalk.wrap64_in _ (by omega)
 have ek3:IntKind.i64.wrap ((k:Int) + 3) = (k:Int) + 3:=IntWalk.i64_in _ (by omega)
 have ek3':wrap64 ((k:Int) + 3) = (k:Int) + 3:=IntWalk.wrap64_in _ (by omega)
 clear h
 go_enter Tryz.func230,Tryz.ntmps230
 go_upto_region 1 with fail
 replace hcb:w.drew.heap[c]? = some (.cells #[.string s,.int .i64 (k:Int),pv,bv,lv,.int .i64 q.pl,.int .i64 q.e] 307 (0,0)):=hcb
 replace HB:=qH HB.out.drew
 refine ao (S:=fun w' => w'.heap[c]? = some (.cells #[.string s,.int .i64 (k:Int),pv,bv,lv,.int .i64 q.pl,.int .i64 q.e] 307 (0,0))) [(true,0),(true,1),(true,2),(true,3),(true,4),(true,5),(true,6),(true,7),(true,8),(false,9),(true,10)] (by kernel_rfl) (by kernel_rfl) hcb ?_
 simp only [aO,List.getElem?_cons_succ,List.getElem?_cons_zero]
 refine sq2p c 0 ?_
 refine sq2p c 0 ?_
 refine sq2p c 0 ?_
 refine sq2 (.string s) ?_ (fun w' hS => by have q0:=aa hS 0; go_simp)
 refine sq2p c 0 ?_
 refine sq2p c 0 ?_
 refine sq2p c 1 ?_
 refine sq2i (k:Int) ?_ (fun w' hS => by have q0:=aa hS 1; go_simp)
 refine sq2 (.string (s.extract k s.size)) ?_
 refine af 90 #[.string (s.extract k s.size),.string ⟨#[37,37]⟩] (by go_simp) ?_
 refine Calls.mono (pfx90 _ ⟨#[37,37]⟩ _) ?_
 rintro e wp1 ⟨rfl,rfl⟩
 refine ⟨_,rfl,hcb,?_⟩
 simp only [Act.put,PutA,PutZ,PutS]
 refine sq2 (.bool (pfxB (s.extract k s.size) ⟨#[37,37]⟩)) ?_
 refine ad ?_
 obtain ⟨q1,hq1⟩:=gX (pfxB (s.extract k s.size) ⟨#[37,37]⟩)
 rw [<- hq1]
 have HQ1:=qH hq1
 clear hq1
 cases q1
 case true =>
  have HQ:=qH (show pctQ s k q = atQ ⟨q.at_,q.lit++[37],q.L,q.pl,q.e⟩ ((k:Int) + 2) by unfold pctQ; rw [if_pos HQ1.out.symm]; rfl)
  have C:=qH (byte231 c s q pv bv lv 37 w.drew ⟨HS.out.blk,HS.out.pv,HS.out.lit.drew,HS.out.prt.drew⟩ (by omega))
  clear hcb
  go_wp2_with fail
  refine C.out.mono ?_
  rintro e w1 ⟨rfl,hs1,hb1⟩
  have HB1:Hid (Below c w w1):=qH ((Below.refl c w).drew.trans hb1)
  have hat1:=hat
  clear C hb1
  obtain ⟨pv2,bv2,lv2,h1⟩:=hs1
  have hat1:(ScQ.mk q.at_ (q.lit++[37]) q.L q.pl q.e).at_ = (k:Int):=hat1
  have hc1:=h1.blk
  rw [hat1] at hc1
  have H1:=qH h1
  clear h1 hat1
  go_upto_region 3 with fail
  refine ac (by rfl) ?_
  simp only [List.map]
  refine sq1p c 0 ?_
  refine sq1p c 0 ?_
  refine sq1p c 1 ?_
  refine sq1i (k:Int) ?_ (by have q0:=aa hc1 1; go_simp)
  refine sq1i (((k:Int) + 2)) ?_
  refine sq1p c 0 ?_
  refine sq1p c 1 ?_
  refine aj 3 _ _ rfl rfl c 1 307 _ #[.string s,.int .i64 ((k:Int) + 2),pv2,bv2,lv2,.int .i64 (ScQ.mk q.at_ (q.lit++[37]) q.L q.pl q.e).pl,.int .i64 (ScQ.mk q.at_ (q.lit++[37]) q.L q.pl q.e).e] [.int .i64 ((k:Int) + 2)] rfl rfl hc1 sz3 (one1 rfl) rfl (by simp) ?_
  intro wm hst hgr
  refine ⟨trivial,?_⟩
  have HF:Hid (ScP c s (pctQ s k q) w wm):=qH (by rw [HQ.out]; exact ⟨⟨_,_,_,H1.out.move _ hst hgr⟩,below_c HB1.out hgr (ae hc1)⟩)
  clear hst hgr hc1 H1
  refine ad ?_
  go_wp2_with fail
  go_end0
  exact ⟨rfl,HF.out⟩
 have C2:=qH (digit233 c s _ _ _ _ _ _ (k + 1) w.drew hcb)
 rw [show (((k + 1:Nat):Int)) = (k:Int) + 1 by omega] at C2
 have z1:=aa hcb 1
 obtain ⟨q2,hq2⟩:=gX (digB s (k + 1))
 rw [<- hq2] at C2
 have HD1:=qH hq2
 clear hq2
 go_wp2_with fail
 refine C2.out.mono ?_
 rintro e w1 ⟨rfl,rfl⟩
 clear C2 z1
 cases q2
 case true =>
  obtain ⟨hlt,hd0,hd1,hd2⟩:=digB_at HD1.out.symm
  obtain ⟨d,hd⟩:=gX (s[k + 1])
  rw [<- hd] at hd0 hd1 hd2
  have hgd:s[k + 1] = d:=hd.symm
  have hwlt:((k + 1:Nat):Int) < (s.size:Int):=by clear ek1 ek1' ek2 ek2' ek3 ek3'; omega
  have hwlt2:(k:Int) + 1 < (s.size:Int):=by clear ek1 ek1' ek2 ek2' ek3 ek3'; omega
  have hwlt3:¬ (k:Int) + 1 < 0:=by clear ek1 ek1' ek2 ek2' ek3 ek3'; omega
  have htn:((k:Int) + 1).toNat = k + 1:=by clear ek1 ek1' ek2 ek2' ek3 ek3'; omega
  have HQ:=qH (show pctQ s k q = atQ (placeQ q d false) ((k:Int) + 2) by
   unfold pctQ
   rw [if_neg (fun e => Bool.noConfusion (HQ1.out.trans e)),if_pos HD1.out.symm,hd0])
  have C:=qH (place234 c s q pv bv lv d false w.drew.drew ⟨HS.out.blk,HS.out.pv,HS.out.lit.drew.drew,HS.out.prt.drew.drew⟩ (by clear ek1 ek1' ek2 ek2' ek3 ek3'; omega) (by clear ek1 ek1' ek2 ek2' ek3 ek3'; omega) ⟨hd1,hd2⟩)
  clear hd hd0 hd1 hd2
  go_upto_region 5 with fail
  refine ao (S:=fun w' => w'.cell? ⟨c,0,none⟩ = some (.string s)∧w'.cell? ⟨c,1,none⟩ = some (.int .i64 (k:Int))) [(true,0),(true,1),(true,2),(true,3),(true,4),(true,5),(true,6),(true,7),(true,8),(true,9),(false,10),(false,11)] (by kernel_rfl) (by kernel_rfl) ⟨aa hcb 0,aa hcb 1⟩ ?_
  simp only [aO,List.getElem?_cons_succ,List.getElem?_cons_zero]
  refine sq2p c 0 ?_
  refine sq2p c 0 ?_
  refine sq2p c 0 ?_
  refine sq2p c 0 ?_
  refine sq2 (.string s) ?_ (fun w' hS => by have q0:=hS.1; go_simp)
  refine sq2p c 0 ?_
  refine sq2p c 0 ?_
  refine sq2p c 1 ?_
  refine sq2i (k:Int) ?_ (fun w' hS => by have q0:=hS.2; go_simp)
  refine sq2i (((k:Int) + 1)) ?_
  refine sq1 (.int .u8 (d.toNat:Int)) ?_ (hS:=⟨aa hcb 0,aa hcb 1⟩)
  refine af 234 #[.pointer (some ⟨c,0,none⟩),.int .u8 (d.toNat:Int),.bool false] (by go_simp) ?_
  refine C.out.mono ?_
  rintro e w1 ⟨rfl,hs1,hb1⟩
  have HB1:Hid (Below c w w1):=qH (((Below.refl c w).drew.drew).trans hb1)
  have hat1:=(show (placeQ q d false).at_ = q.at_ by unfold placeQ a8; split <;> rfl).trans hat
  have hS1:w1.cell? ⟨c,0,none⟩ = some (.string s)∧w1.cell? ⟨c,1,none⟩ = some (.int .i64 (k:Int)):=by
   obtain ⟨_,_,_,h1⟩:=hs1
   exact ⟨aa h1.blk 0,(aa h1.blk 1).trans (by rw [hat1]; rfl)⟩
  clear C hb1 hcb
  refine ⟨_,rfl,hS1,?_⟩
  simp only [Act.put,PutA,PutZ,PutS]
  refine ad ?_
  clear hS1
  obtain ⟨pv2,bv2,lv2,h1⟩:=hs1
  have hat1:(placeQ q d false).at_ = (k:Int):=hat1
  have hc1:=h1.blk
  rw [hat1] at hc1
  have H1:=qH h1
  clear h1 hat1
  go_upto_region 6 with fail
  refine ac (by rfl) ?_
  simp only [List.map]
  refine sq1p c 0 ?_
  refine sq1p c 0 ?_
  refine sq1p c 1 ?_
  refine sq1i (k:Int) ?_ (by have q0:=aa hc1 1; go_simp)
  refine sq1i (((k:Int) + 2)) ?_
  refine sq1p c 0 ?_
  refine sq1p c 1 ?_
  refine aj 3 _ _ rfl rfl c 1 307 _ #[.string s,.int .i64 ((k:Int) + 2),pv2,bv2,lv2,.int .i64 (placeQ q d false).pl,.int .i64 (placeQ q d false).e] [.int .i64 ((k:Int) + 2)] rfl rfl hc1 sz3 (one1 rfl) rfl (by simp) ?_
  intro wm hst hgr
  refine ⟨trivial,?_⟩
  have HF:Hid (ScP c s (pctQ s k q) w wm):=qH (by rw [HQ.out]; exact ⟨⟨_,_,_,H1.out.move _ hst hgr⟩,below_c HB1.out hgr (ae hc1)⟩)
  clear hst hgr hc1 H1
  refine ad ?_
  go_wp2_with fail
  go_end0
  exact ⟨rfl,HF.out⟩
 obtain ⟨q3,hq3⟩:=gX (pfxB (s.extract k s.size) ⟨#[37,100]⟩)
 have C3:Hid (∀ W,Calls Tryz.prog 90 #[.string (s.extract k s.size),.string ⟨#[37,100]⟩] W fun e w' => e = .returned (.bool q3)∧W = w'):=qH (fun W => by rw [hq3]; exact pfx90 _ _ W)
 have HQ3:=qH hq3
 obtain ⟨q4,hq4⟩:=gX (digB s (k + 2))
 have C4:Hid (∀ W,W.heap[c]? = some (.cells #[.string s,.int .i64 (k:Int),pv,bv,lv,.int .i64 q.pl,.int .i64 q.e] 307 (0,0))→Calls Tryz.prog 233 #[.pointer (some ⟨c,0,none⟩),.int .i64 ((k:Int) + 2)] W fun e w' => e = .returned (.bool q4)∧W = w'):=qH (fun W hW => by rw [hq4]; exact digit233 c s _ _ _ _ _ _ (k + 2) W hW)
 have HD2:=qH hq4
 clear hq3 hq4
 cases q3
 case false =>
  go_upto_region 7 with fail
  replace hcb:w.drew.heap[c]? = some (.cells #[.string s,.int .i64 (k:Int),pv,bv,lv,.int .i64 q.pl,.int .i64 q.e] 307 (0,0)):=hcb
  replace HB:=qH HB.out.drew
  refine aI (S:=fun w' => w'.heap[c]? = some (.cells #[.string s,.int .i64 (k:Int),pv,bv,lv,.int .i64 q.pl,.int .i64 q.e] 307 (0,0))) [(true,0),(true,1),(true,2),(true,3),(true,4),(true,5),(true,6),(true,7),(true,8),(false,9),(true,10),(true,11),(true,12),(true,13),(true,14),(true,15),(true,16),(false,17),(true,18),(true,19)] (by kernel_rfl) (by kernel_rfl) hcb ?_
  simp only [aO,List.getElem?_cons_succ,List.getElem?_cons_zero]
  refine gd1p c 0 ?_
  refine gd1p c 0 ?_
  refine gd1p c 0 ?_
  refine gd1 (.string s) ?_ (fun w' hS => by have q0:=aa hS 0; go_simp)
  refine gd1p c 0 ?_
  refine gd1p c 0 ?_
  refine gd1p c 1 ?_
  refine gd1i (k:Int) ?_ (fun w' hS => by have q0:=aa hS 1; go_simp)
  refine gd1 (.string (s.extract k s.size)) ?_
  refine ax rfl ?_
  refine af 90 #[.string (s.extract k s.size),.string ⟨#[37,100]⟩] (by go_simp) ?_
  refine Calls.mono (C3.out _) ?_
  rintro e wp1 ⟨rfl,rfl⟩
  refine ⟨_,rfl,hcb,?_⟩
  refine ad ?_
  simp only [Act.put,PutA,PutZ,PutS]
  refine gd1b false ?_
  refine aA rfl ?_
  simp only [Act.put,PutA,PutZ,PutS]
  refine aA rfl ?_
  simp only [Act.put,PutA,PutZ,PutS]
  refine aA rfl ?_
  simp only [Act.put,PutA,PutZ,PutS]
  refine aA rfl ?_
  simp only [Act.put,PutA,PutZ,PutS]
  refine aA rfl ?_
  simp only [Act.put,PutA,PutZ,PutS]
  refine aA rfl ?_
  simp only [Act.put,PutA,PutZ,PutS]
  refine aM rfl hcb ?_
  simp only [Act.put,PutA,PutZ,PutS]
  refine gd1b false ?_
  refine gd1b false ?_
  refine bF ?_
  have HQ:=qH (show pctQ s k q = errQ q 14 by
   unfold pctQ
   rw [if_neg (fun e => Bool.noConfusion (HQ1.out.trans e)),if_neg (fun e => Bool.noConfusion (HD1.out.trans e)),if_neg (by rw [<- HQ3.out]; simp)])
  go_upto_region 0 with fail
  refine ac (by rfl) ?_
  simp only [List.map]
  refine sq1p c 0 ?_
  refine sq1p c 0 ?_
  refine sq1p c 6 ?_
  refine aj 23 _ _ rfl rfl c 6 307 _ #[.string s,.int .i64 (k:Int),pv,bv,lv,.int .i64 q.pl,.int .i64 14] [.int .i64 14] rfl rfl hcb sz23 (one1 rfl) rfl (by simp) ?_
  intro wm hst hgr
  refine ⟨trivial,?_⟩
  have HF:Hid (ScP c s (pctQ s k q) w wm):=qH (by
   rw [HQ.out]
   exact ⟨⟨_,_,_,HS.out.drew.drew.fail hat hst hgr⟩,below_c (Below.refl c w).drew.drew hgr (ae hcb)⟩)
  clear hst hgr hcb
  refine ad ?_
  go_wp2_with fail
  go_end0
  exact ⟨rfl,HF.out⟩
 go_upto_region 7 with fail
 replace hcb:w.drew.heap[c]? = some (.cells #[.string s,.int .i64 (k:Int),pv,bv,lv,.int .i64 q.pl,.int .i64 q.e] 307 (0,0)):=hcb
 replace HB:=qH HB.out.drew
 refine aI (S:=fun w' => w'.heap[c]? = some (.cells #[.string s,.int .i64 (k:Int),pv,bv,lv,.int .i64 q.pl,.int .i64 q.e] 307 (0,0))) [(true,0),(true,1),(true,2),(true,3),(true,4),(true,5),(true,6),(true,7),(true,8),(false,9),(true,10),(true,11),(true,12),(true,13),(true,14),(true,15),(true,16),(false,17),(true,18),(true,19)] (by kernel_rfl) (by kernel_rfl) hcb ?_
 simp only [aO,List.getElem?_cons_succ,List.getElem?_cons_zero]
 refine gd1p c 0 ?_
 refine gd1p c 0 ?_
 refine gd1p c 0 ?_
 refine gd1 (.string s) ?_ (fun w' hS => by have q0:=aa hS 0; go_simp)
 refine gd1p c 0 ?_
 refine gd1p c 0 ?_
 refine gd1p c 1 ?_
 refine gd1i (k:Int) ?_ (fun w' hS => by have q0:=aa hS 1; go_simp)
 refine gd1 (.string (s.extract k s.size)) ?_
 refine ax rfl ?_
 refine af 90 #[.string (s.extract k s.size),.string ⟨#[37,100]⟩] (by go_simp) ?_
 refine Calls.mono (C3.out _) ?_
 rintro e wp1 ⟨rfl,rfl⟩
 refine ⟨_,rfl,hcb,?_⟩
 refine ad ?_
 simp only [Act.put,PutA,PutZ,PutS]
 refine gd1b true ?_
 refine gd1p c 0 ?_
 refine gd1p c 0 ?_
 refine gd1p c 0 ?_
 refine gd1p c 1 ?_
 refine gd1i (k:Int) ?_ (fun w' hS => by have q0:=aa hS 1; go_simp)
 refine gd1i (((k:Int) + 2)) ?_
 refine ax rfl ?_
 refine af 233 #[.pointer (some ⟨c,0,none⟩),.int .i64 ((k:Int) + 2)] (by go_simp) ?_
 refine Calls.mono (C4.out _ hcb) ?_
 rintro e wp2 ⟨rfl,rfl⟩
 refine ⟨_,rfl,hcb,?_⟩
 refine ad ?_
 simp only [Act.put,PutA,PutZ,PutS]
 refine gd1b q4 ?_
 refine gd1b q4 ?_
 refine bF ?_
 cases q4
 case false =>
  have HQ:=qH (show pctQ s k q = errQ q 14 by
   unfold pctQ
   rw [if_neg (fun e => Bool.noConfusion (HQ1.out.trans e)),if_neg (fun e => Bool.noConfusion (HD1.out.trans e)),if_neg (by rw [<- HQ3.out,<- HD2.out]; simp)])
  go_upto_region 0 with fail
  refine ac (by rfl) ?_
  simp only [List.map]
  refine sq1p c 0 ?_
  refine sq1p c 0 ?_
  refine sq1p c 6 ?_
  refine aj 23 _ _ rfl rfl c 6 307 _ #[.string s,.int .i64 (k:Int),pv,bv,lv,.int .i64 q.pl,.int .i64 14] [.int .i64 14] rfl rfl hcb sz23 (one1 rfl) rfl (by simp) ?_
  intro wm hst hgr
  refine ⟨trivial,?_⟩
  have HF:Hid (ScP c s (pctQ s k q) w wm):=qH (by
   rw [HQ.out]
   exact ⟨⟨_,_,_,HS.out.drew.drew.fail hat hst hgr⟩,below_c (Below.refl c w).drew.drew hgr (ae hcb)⟩)
  clear hst hgr hcb
  refine ad ?_
  go_wp2_with fail
  go_end0
  exact ⟨rfl,HF.out⟩
 obtain ⟨hlt,hd0,hd1,hd2⟩:=digB_at HD2.out.symm
 obtain ⟨d,hd⟩:=gX (s[k + 2])
 rw [<- hd] at hd0 hd1 hd2
 have hgd:s[k + 2] = d:=hd.symm
 have hwlt:((k + 2:Nat):Int) < (s.size:Int):=by clear ek1 ek1' ek2 ek2' ek3 ek3'; omega
 have hwlt2:(k:Int) + 2 < (s.size:Int):=by clear ek1 ek1' ek2 ek2' ek3 ek3'; omega
 have hwlt3:¬ (k:Int) + 2 < 0:=by clear ek1 ek1' ek2 ek2' ek3 ek3'; omega
 have htn:((k:Int) + 2).toNat = k + 2:=by clear ek1 ek1' ek2 ek2' ek3 ek3'; omega
 have HQ:=qH (show pctQ s k q = atQ (placeQ q d true) ((k:Int) + 3) by
  unfold pctQ
  rw [if_neg (fun e => Bool.noConfusion (HQ1.out.trans e)),if_neg (fun e => Bool.noConfusion (HD1.out.trans e)),if_pos (by rw [<- HQ3.out,<- HD2.out]; rfl),hd0])
 have C:=qH (place234 c s q pv bv lv d true w.drew.drew.drew ⟨HS.out.blk,HS.out.pv,HS.out.lit.drew.drew.drew,HS.out.prt.drew.drew.drew⟩ (by clear ek1 ek1' ek2 ek2' ek3 ek3'; omega) (by clear ek1 ek1' ek2 ek2' ek3 ek3'; omega) ⟨hd1,hd2⟩)
 clear hd hd0 hd1 hd2
 go_upto_region 8 with fail
 refine ao (S:=fun w' => w'.cell? ⟨c,0,none⟩ = some (.string s)∧w'.cell? ⟨c,1,none⟩ = some (.int .i64 (k:Int))) [(true,0),(true,1),(true,2),(true,3),(true,4),(true,5),(true,6),(true,7),(true,8),(true,9),(false,10),(false,11)] (by kernel_rfl) (by kernel_rfl) ⟨aa hcb 0,aa hcb 1⟩ ?_
 simp only [aO,List.getElem?_cons_succ,List.getElem?_cons_zero]
 refine sq2p c 0 ?_
 refine sq2p c 0 ?_
 refine sq2p c 0 ?_
 refine sq2p c 0 ?_
 refine sq2 (.string s) ?_ (fun w' hS => by have q0:=hS.1; go_simp)
 refine sq2p c 0 ?_
 refine sq2p c 0 ?_
 refine sq2p c 1 ?_
 refine sq2i (k:Int) ?_ (fun w' hS => by have q0:=hS.2; go_simp)
 refine sq2i (((k:Int) + 2)) ?_
 refine sq1 (.int .u8 (d.toNat:Int)) ?_ (hS:=⟨aa hcb 0,aa hcb 1⟩)
 refine af 234 #[.pointer (some ⟨c,0,none⟩),.int .u8 (d.toNat:Int),.bool true] (by go_simp) ?_
 refine C.out.mono ?_
 rintro e w1 ⟨rfl,hs1,hb1⟩
 have HB1:Hid (Below c w w1):=qH (((Below.refl c w).drew.drew.drew).trans hb1)
 have hat1:=(show (placeQ q d true).at_ = q.at_ by unfold placeQ a8; split <;> rfl).trans hat
 have hS1:w1.cell? ⟨c,0,none⟩ = some (.string s)∧w1.cell? ⟨c,1,none⟩ = some (.int .i64 (k:Int)):=by
  obtain ⟨_,_,_,h1⟩:=hs1
  exact ⟨aa h1.blk 0,(aa h1.blk 1).trans (by rw [hat1]; rfl)⟩
 clear C hb1 hcb
 refine ⟨_,rfl,hS1,?_⟩
 simp only [Act.put,PutA,PutZ,PutS]
 refine ad ?_
 clear hS1
 obtain ⟨pv2,bv2,lv2,h1⟩:=hs1
 have hat1:(placeQ q d true).at_ = (k:Int):=hat1
 have hc1:=h1.blk
 rw [hat1] at hc1
 have H1:=qH h1
 clear h1 hat1
 go_upto_region 9 with fail
 refine ac (by rfl) ?_
 simp only [List.map]
 refine sq1p c 0 ?_
 refine sq1p c 0 ?_
 refine sq1p c 1 ?_
 refine sq1i (k:Int) ?_ (by have q0:=aa hc1 1; go_simp)
 refine sq1i (((k:Int) + 3)) ?_
 refine sq1p c 0 ?_
 refine sq1p c 1 ?_
 refine aj 3 _ _ rfl rfl c 1 307 _ #[.string s,.int .i64 ((k:Int) + 3),pv2,bv2,lv2,.int .i64 (placeQ q d true).pl,.int .i64 (placeQ q d true).e] [.int .i64 ((k:Int) + 3)] rfl rfl hc1 sz3 (one1 rfl) rfl (by simp) ?_
 intro wm hst hgr
 refine ⟨trivial,?_⟩
 have HF:Hid (ScP c s (pctQ s k q) w wm):=qH (by rw [HQ.out]; exact ⟨⟨_,_,_,H1.out.move _ hst hgr⟩,below_c HB1.out hgr (ae hc1)⟩)
 clear hst hgr hc1 H1
 refine ad ?_
 go_wp2_with fail
 go_end0
 exact ⟨rfl,HF.out⟩
end Go.Proofs.YtmhhcfceikcfbaaGreat
