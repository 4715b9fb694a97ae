/- Walks: the law's bytes of items to all depths, of pieces, splices, edits. -/
import Derived.Test.YtmhhcfceikcfbaaGreatDcL5
import Derived.Test.YtmhhcfceikcfbaaGreatDcL6
import Derived.Test.YtmhhcfceikcfbaaGreatDcN14
import Derived.Test.YtmhhcfceikcfbaaGreatDcT2
namespace Go.Proofs.YtmhhcfceikcfbaaGreat
open Go.RowKit
set_option maxRecDepth 100000
set_option maxHeartbeats 4000000
theorem str_none (w:World) (A:Option Addr) (cp:Nat):Calls Tryz.prog 25 #[.slice A 0 cp] w (StrE w (encN 0)):=by
 have CN:=qH (bm 0 (by unfold I64; omega) w)
 go_enter Tryz.func25,Tryz.ntmps25
 go_wp2_with fail
 refine CN.out.mono ?_
 rintro e w1 ⟨rfl,hb1⟩
 have HB1:=qH hb1
 clear hb1 CN
 go_wp2_with fail
 go_loopw [3,4] (fun sv iv wr => sv = .string (mkB (encN 0))∧iv = .int .i64 0∧Hid (Below w.heap.size w wr)) (fun _ _ _ => 0)
 case atStart => exact ⟨rfl,rfl,HB1⟩
 obtain ⟨rfl,rfl,HB⟩:=hrel
 clear HB1
 go_wp2_with fail
 go_ret
 exact ⟨rfl,HB.out⟩
theorem str_items:∀ n,ItemsS (itP n) (itE n)
 | 0 => fun G w v l hv hG hz => by
  have e:l = []:=by
   cases l with
   | nil => rfl
   | cons x _ => exact Empty.elim x
  subst e
  obtain ⟨A,cp,hsl,_,_⟩:=hv.shape
  subst hsl
  have h:=str_none w A cp
  have e2:aj (itE 0) ([]:List (It 0)) = encN 0:=by simp [aj]
  rw [e2]
  exact h
 | n + 1 => fun G w v l hv hG hz => str_items_step (itP n) (itE n) (aZ n) (str_items n) G w v l hv hG hz
end Go.Proofs.YtmhhcfceikcfbaaGreat
namespace Go.Proofs.YtmhhcfceikcfbaaGreat
open Go.RowKit Go.WideShapes
set_option maxRecDepth 100000
set_option maxHeartbeats 4000000
def Dom {α:Type} (R:Rp α) (D:α→Prop):Prop:=∀ w G vs x,R w G vs x→D x
theorem bL {α:Type} {R:Rp α} {D:α→Prop} (h:Dom R D) {sz:Nat} {w:World} {G:Nat→Prop} {v:Value} {l:List α} (hv:Slv R sz w G v l):Li D l:=by
 obtain ⟨A,c,rfl,h1,h2⟩:=hv.shape
 unfold maxLen at h2
 refine ⟨by omega,fun x hx => ?_⟩
 obtain ⟨i,hi⟩:=List.mem_iff_getElem?.1 hx
 obtain ⟨_,_,vs,_,_,_,_,hR,_⟩:=hv.at i x hi
 exact h _ _ _ _ hR
theorem dom_two:Dom twoP twoD:=fun _ _ _ _ h => h.2
theorem dom_lay:Dom layP layD:=fun _ _ _ _ h => h.2
theorem dom_hd:Dom hdP hdD:=by
 rintro w G vs x ⟨_,_,_,_,a,b,h1,h2,h3⟩
 exact ⟨bL dom_two h1,a,b,bL dom_two h2,bL dom_lay h3⟩
theorem dom_lvl:Dom lvlP lvlD:=fun _ _ _ _ h => h.2
theorem dom_sty:Dom styP styD:=by
 rintro w G vs x ⟨_,_,⟨a,b,c,d,e⟩,h⟩
 exact ⟨a,b,c,d,e,bL dom_two h⟩
theorem dom_lst:Dom lstP lstD:=by
 rintro w G vs x ⟨_,_,a,h⟩
 exact ⟨a,bL dom_lvl h⟩
theorem dom_cmt:Dom cmtP cmtD:=fun _ _ _ _ h => h.2
theorem dom_vr:Dom vrP vrD:=fun _ _ _ _ h => h.2
theorem dom_stg:Dom stgP stgD:=by
 rintro w G vs x ⟨_,_,_,_,_,h1,h2,h3,h4⟩
 exact ⟨bL dom_sty h1,bL dom_lst h2,bL dom_cmt h3,bL dom_vr h4⟩
theorem dom_ce {α:Type} {R:Rp α} {D:α→Prop} (h:Dom R D):Dom (ceP R) (ceD D):=by
 rintro w G vs x ⟨_,_,_,_,_,_,_,a,b,c⟩
 exact ⟨a,dom_hd _ _ _ _ b,bL h c⟩
theorem dom_rw {α:Type} {R:Rp α} {D:α→Prop} (h:Dom R D):Dom (rwP R) (rwD D):=by
 rintro w G vs x ⟨_,_,_,_,_,_,_,b,c⟩
 exact ⟨dom_hd _ _ _ _ b,bL (dom_ce h) c⟩
theorem dom_is {α:Type} {R:Rp α} {D:α→Prop} (h:Dom R D):Dom (isP R) (isD D):=by
 rintro w G vs x ⟨_,_,_,_,_,_,_,_,⟨a,b,c,d⟩,e,f,g⟩
 exact ⟨a,b,c,d,dom_hd _ _ _ _ e,bL h f,bL (dom_rw h) g⟩
theorem dom_it:∀ n,Dom (itP n) (itD n)
 | 0 => fun _ _ _ x _ => Empty.elim x
 | n + 1 => dom_is (dom_it n)
section
variable {H:Type} {enc:TypeId × Value→H}
set_option maxRecDepth 100000
end
end Go.Proofs.YtmhhcfceikcfbaaGreat
namespace Go.Proofs.YtmhhcfceikcfbaaGreat
open Go.RowKit
set_option maxRecDepth 100000
set_option maxHeartbeats 4000000
def chkD {n:Nat} (x:Dc n):Int:=chkT (stgT styT tmpT) x
theorem check_doc (n:Nat) (G:Nat→Prop) (w:World) (vs:List Value) (x:Dc n) (hX:dcP n w G vs x) (hG:∀ b,G b→b < w.heap.size) (hz:(dcE n x).length≤1048576000):Calls Tryz.prog 20 #[.agg vs.toArray] w (RetI (chkD x) w) :=
 Check20 _ (settings47 styT sty98 tmpT tmp205) n G w vs x hX hG hz
def EncR {n:Nat} (x:Dc n) (w:World) (e:Ending) (w':World):Prop:=e = .returned (.tuple #[.string (if chkD x = 0 then mkB (aT++dcE n x) else ⟨#[]⟩),.int .i64 (chkD x)])∧Below w.heap.size w w'
theorem bx:(Tryz.prog.info? 49).map (·.size) = some 11:=by kernel_rfl
theorem encode21 (n:Nat) (G:Nat→Prop) (w:World) (vs:List Value) (x:Dc n) (hv:dcP n w G vs x) (hG:∀ b,G b→b < w.heap.size) (hz:(dcE n x).length≤1048576000):Calls Tryz.prog 21 #[.agg vs.toArray] w (EncR x w):=by
 by_cases hc:chkD x = 0
 case pos =>
  have C:=qH (check_doc n G (w.alloc (.cells vs.toArray 49)) vs x (Rp.below (bG n) hv hG (ag w _)) (fun b hb => Nat.lt_of_lt_of_le (hG b hb) (ag w _).size) hz)
  rw [hc] at C
  have h:=EncDoc21 n G w vs x hv hG (by have:aT.length = 4:=rfl; rw [List.length_append]; omega) C.out
  unfold EncR
  rw [hc,if_pos rfl]
  exact h
 unfold EncR
 rw [if_neg hc]
 obtain ⟨f0,h0,h1,h2,h3,h4,r0,s0,s1,s2,s3,rfl,A0,A1,A2,A3⟩:=hv
 have hR:dcP n w G [f0,h0,h1,h2,h3,h4,r0,s0,s1,s2,s3] x:=⟨_,_,_,_,_,_,_,_,_,_,_,rfl,A0,A1,A2,A3⟩
 obtain ⟨E,hE⟩:=gX (chkD x)
 obtain ⟨W,hW⟩:=gX (w.alloc (.cells #[f0,h0,h1,h2,h3,h4,r0,s0,s1,s2,s3] 49))
 have hb:W.heap[w.heap.size]? = some (.cells #[f0,h0,h1,h2,h3,h4,r0,s0,s1,s2,s3] 49 (0,0)):=by rw [hW]; exact heap_alloc_new w _
 have hB:Below w.heap.size w W:=by rw [hW]; exact ag w _
 have C:=qH (check_doc n G W _ x (Rp.below (bG n) hR hG hB) (fun b hb => Nat.lt_of_lt_of_le (hG b hb) hB.size) hz)
 rw [<- hE] at C hc ⊢
 obtain ⟨N,hN⟩:=gX (w.heap.size)
 rw [<- hN] at hb
 have HW:=qH hW
 have HN:=qH hN
 have HB:=qH hB
 have HC:=qH hc
 have f1:(E == 0) = false:=by rw [beq_eq_false_iff_ne]; exact hc
 have f2:(E != 0) = true:=by simp [bne,f1]
 clear A0 A1 A2 A3 hR hE hW hN hB hc hz hG
 go_enter Tryz.func21,Tryz.ntmps21
 go_upto_region 1 with fail
 rw [<- HW.out,<- HN.out]
 clear HW
 refine af (by rfl) ?_
 simp only [List.map]
 refine as_ 49 _ rfl N 49 #[f0,h0,h1,h2,h3,h4,r0,s0,s1,s2,s3] _ rfl hb Tryz.underlying49 rfl bx trivial ?_
 simp only [Act.put,PutA,PutZ,PutS]
 refine ae 20 #[.agg #[f0,h0,h1,h2,h3,h4,r0,s0,s1,s2,s3]] (by go_simp) ?_
 refine C.out.mono ?_
 rintro e w1 ⟨rfl,hb1⟩
 have HB1:=qH (HB.out.trans (hb1.mono HB.out.size))
 clear C hb1 hb HB
 refine ⟨_,rfl,trivial,?_⟩
 simp only [Act.put,PutA,PutZ,PutS]
 refine sq1i E ?_
 refine ad ?_
 go_wp2_with fail
 go_ret2
 exact ⟨rfl,HB1.out⟩
end Go.Proofs.YtmhhcfceikcfbaaGreat
namespace Go.Proofs.YtmhhcfceikcfbaaGreat
open Go.RowKit Go.WideShapes
set_option maxRecDepth 100000
set_option maxHeartbeats 4000000
theorem cc141:Tryz.prog.cellsOf 141 = 3:=by kernel_rfl
theorem cc49:Tryz.prog.cellsOf 49 = 11:=by kernel_rfl
section
variable {H:Type} {enc:TypeId × Value→H} {w:World}
theorem rdA_141 (f:Nat):RdA enc w 141 3 revP revE (f + 1):=by
 intro fuel cs y hf hy hb
 obtain ⟨xs,n,rfl,rfl,hl,hlen,hg⟩:=DataW.trod_struct Tryz.underlying141 hy
 rw [cc141] at hl
 obtain ⟨c0,c1,c2,rfl⟩:∃ c0 c1 c2,cs = [c0,c1,c2]:=by
  match cs,hl with
  | [c0,c1,c2],_ => exact ⟨_,_,_,rfl⟩
 obtain ⟨y0,y1,y2,rfl⟩:∃ y0 y1 y2,xs = [y0,y1,y2]:=by
  match xs,hlen with
  | [y0,y1,y2],_ => exact ⟨_,_,_,rfl⟩
 simp only [List.map_cons,List.map_nil,Rows.uptoBulk,Rows.uptoBulkAll] at hb ⊢
 have h0:DataW.trod enc Tryz.prog w 0 (fun _ => true) true n 3 (List.take (Tryz.prog.cellsOf 3) (List.drop 0 [c0,c1,c2])) = some y0:=hg 0 _ rfl
 rw [cc3] at h0
 obtain ⟨_,x0,r0,b0⟩:=(aX n) n [c0] y0 (by omega) h0 (by omega)
 have h1:DataW.trod enc Tryz.prog w 0 (fun _ => true) true n 9 (List.take (Tryz.prog.cellsOf 9) (List.drop 1 [c0,c1,c2])) = some y1:=hg 1 _ rfl
 rw [cc9] at h1
 obtain ⟨_,x1,r1,b1⟩:=(rdA_str n) n [c1] y1 (by omega) h1 (by omega)
 have h2:DataW.trod enc Tryz.prog w 0 (fun _ => true) true n 3 (List.take (Tryz.prog.cellsOf 3) (List.drop 2 [c0,c1,c2])) = some y2:=hg 2 _ rfl
 rw [cc3] at h2
 obtain ⟨_,x2,r2,b2⟩:=(aX n) n [c2] y2 (by omega) h2 (by omega)
 obtain ⟨q0,i0⟩:=r0
 injection q0 with q0 _
 obtain ⟨q1,i1⟩:=r1
 injection q1 with q1 _
 obtain ⟨q2,i2⟩:=r2
 injection q2 with q2 _
 clear hg hl hlen hy h0 h1 h2
 subst q0
 subst q1
 subst q2
 refine ⟨rfl,(x0,x1,x2),⟨rfl,i0,i1,i2⟩,?_⟩
 simp only [revE,seqE,List.length_append] at *
 omega
theorem rdA_41 (f:Nat):RdA enc w 41 1 (LsP revP 3) (aj revE) f:=bk Tryz.underlying41 cc141 (by decide) ((rdA_141 f).le (Nat.le_succ _))
theorem rdA_49 (f:Nat):RdA enc w 49 11 (dcP f) (dcE f) (f + 1):=by
 intro fuel cs y hf hy hb
 obtain ⟨xs,n,rfl,rfl,hl,hlen,hg⟩:=DataW.trod_struct Tryz.underlying49 hy
 rw [cc49] at hl
 obtain ⟨c0,c1,c2,c3,c4,c5,c6,c7,c8,c9,c10,rfl⟩:∃ c0 c1 c2 c3 c4 c5 c6 c7 c8 c9 c10,cs = [c0,c1,c2,c3,c4,c5,c6,c7,c8,c9,c10]:=by
  match cs,hl with
  | [c0,c1,c2,c3,c4,c5,c6,c7,c8,c9,c10],_ => exact ⟨_,_,_,_,_,_,_,_,_,_,_,rfl⟩
 obtain ⟨y0,y1,y2,y3,rfl⟩:∃ y0 y1 y2 y3,xs = [y0,y1,y2,y3]:=by
  match xs,hlen with
  | [y0,y1,y2,y3],_ => exact ⟨_,_,_,_,rfl⟩
 simp only [List.map_cons,List.map_nil,Rows.uptoBulk,Rows.uptoBulkAll] at hb ⊢
 have h0:DataW.trod enc Tryz.prog w 0 (fun _ => true) true n 33 (List.take (Tryz.prog.cellsOf 33) (List.drop 0 [c0,c1,c2,c3,c4,c5,c6,c7,c8,c9,c10])) = some y0:=hg 0 _ rfl
 rw [cc33] at h0
 obtain ⟨_,x0,r0,b0⟩:=((rdA_33n f).le (show n≤f by omega)) n [c0] y0 (by omega) h0 (by omega)
 have h1:DataW.trod enc Tryz.prog w 0 (fun _ => true) true n 40 (List.take (Tryz.prog.cellsOf 40) (List.drop 1 [c0,c1,c2,c3,c4,c5,c6,c7,c8,c9,c10])) = some y1:=hg 1 _ rfl
 rw [cc40] at h1
 obtain ⟨_,x1,r1,b1⟩:=((rdA_40 n).le (Nat.le_succ _)) n [c1,c2,c3,c4,c5] y1 (by omega) h1 (by omega)
 have h2:DataW.trod enc Tryz.prog w 0 (fun _ => true) true n 41 (List.take (Tryz.prog.cellsOf 41) (List.drop 6 [c0,c1,c2,c3,c4,c5,c6,c7,c8,c9,c10])) = some y2:=hg 2 _ rfl
 rw [cc41] at h2
 obtain ⟨_,x2,r2,b2⟩:=(rdA_41 n) n [c6] y2 (by omega) h2 (by omega)
 have h3:DataW.trod enc Tryz.prog w 0 (fun _ => true) true n 47 (List.take (Tryz.prog.cellsOf 47) (List.drop 7 [c0,c1,c2,c3,c4,c5,c6,c7,c8,c9,c10])) = some y3:=hg 3 _ rfl
 rw [cc47] at h3
 obtain ⟨_,x3,r3,b3⟩:=((rdA_47 n).le (Nat.le_succ _)) n [c7,c8,c9,c10] y3 (by omega) h3 (by omega)
 obtain ⟨v0,q0,l0⟩:=r0
 injection q0 with q0 _
 obtain ⟨v2,q2,l2⟩:=r2
 injection q2 with q2 _
 clear hg hl hlen hy h0 h1 h2 h3
 subst q0
 subst q2
 refine ⟨rfl,(x0,x1,x2,x3),⟨_,_,_,_,_,_,_,_,_,_,_,rfl,l0,r1,l2,r3⟩,?_⟩
 simp only [dcE,seqE,List.length_append] at *
 omega
theorem revE_ne (x:Rev):revE x≠[]:=by
 intro h
 have h2:=congrArg List.length h
 have h3:=List.length_pos_iff.2 (encN_ne x.1)
 simp only [revE,seqE,List.length_append,List.length_nil] at h2
 omega
theorem dom_rev:Dom revP revD:=fun _ _ _ _ h => h.2
def dcD (n:Nat) (x:Dc n):Prop:=Li (itD n) x.1∧hdD x.2.1∧Li revD x.2.2.1∧stgD x.2.2.2
theorem dom_dc (n:Nat):Dom (dcP n) (dcD n):=by
 rintro w G vs x ⟨_,_,_,_,_,_,_,_,_,_,_,_,h1,h2,h3,h4⟩
 exact ⟨bL (dom_it n) h1,dom_hd _ _ _ _ h2,bL dom_rev h3,dom_stg _ _ _ _ h4⟩
theorem fit_dcD (n:Nat):Fit (dcE n) (dcR n) (dcD n):=(fit_its n).seq (fit_hd.seq ((fit_rev.list revE_ne).seq fit_stg))
theorem byt_dc (n:Nat):Byt (dcE n):=(byt_it n).list.seq (byt_hd.seq (byt_rev.list.seq byt_stg))
theorem doc_of_arg {W:World} {r:Reach} {b0:Nat} {v:Value} {d:DataW H} {p:List MemPlace} (hv:Value.okWide Tryz.prog W r b0 49 v) (h:DataW.Trod enc Tryz.prog W 0 (fun _ => true) true 49 v d p) (hb:Rows.uptoBulk d≤1048576) :
  ∃ m,∀ n,m≤n→∃ (vs:List Value) (x:Dc n),v = .agg vs.toArray∧vs.length = 11∧dcP n W (fun b => b < W.heap.size) vs x∧(dcE n x).length≤10485760:=by
 obtain ⟨cs,rfl,_⟩:=okWide_struct Tryz.underlying49 hv
 obtain ⟨fuel,hf⟩:=h
 refine ⟨fuel,fun n hn => ?_⟩
 obtain ⟨h1,x,h2,h3⟩:=rdA_49 (enc:=enc) (w:=W) n fuel _ _ (by omega) hf hb
 exact ⟨cs.toList,x,by simp,h1,h2,by simp only at h3; omega⟩
end
end Go.Proofs.YtmhhcfceikcfbaaGreat
namespace Go.Proofs.YtmhhcfceikcfbaaGreat
open Go.RowKit
set_option maxRecDepth 100000
set_option maxHeartbeats 4000000
abbrev obl:ByteArray:=⟨#[79,66,76,49]⟩
def rdErr {α:Type} (p:Rd α) (s:ByteArray):Int:=if s.size < 4∧pfxB obl s = true then 34 else if pfxB s obl = false then 35 else match p ((al s).drop 4) with | .ok _ k => if 4 + k < s.size then 15 else 0 | .err E => E
def dcz (n:Nat):Dc n:=([],hd00,[],([],[],[],[]))
theorem dcz_rep (n:Nat) (w:World) (G:Nat→Prop):dcP n w G [.slice none 0 0,.slice none 0 0,.int .i64 0,.int .i64 0,.slice none 0 0,.slice none 0 0,.slice none 0 0,.slice none 0 0,.slice none 0 0,.slice none 0 0,.slice none 0 0] (dcz n) :=
 ⟨_,_,_,_,_,_,_,_,_,_,_,rfl,Slv.nil _ _,hd00_rep w G,Slv.nil _ _,⟨_,_,_,_,rfl,Slv.nil _ _,Slv.nil _ _,Slv.nil _ _,Slv.nil _ _⟩⟩
theorem one_z:∀ u∈([.slice none 0 0,.slice none 0 0,.int .i64 0,.int .i64 0,.slice none 0 0,.slice none 0 0,.slice none 0 0,.slice none 0 0,.slice none 0 0,.slice none 0 0,.slice none 0 0]:List Value),u.oneCell' = true:=by
 intro u hu
 simp at hu
 rcases hu with rfl | rfl | rfl <;> rfl
def DecD (n:Nat) (s:ByteArray) (w:World) (ex:Ending) (w':World):Prop :=
 Below w.heap.size w w'∧∃ (vs:List Value) (x:Dc n) (E:Int),ex = .returned (.tuple #[.agg (List.toArray vs),.int .i64 E])∧dcP n w' (Since w.heap.size w') vs x∧(∀ u∈vs,u.oneCell' = true) ∧
  (rdErr (dcR n) s≠0→E = rdErr (dcR n) s)∧(rdErr (dcR n) s = 0→∃ y,dcR n ((al s).drop 4) = .ok y (s.size - 4)∧E = chkD y∧(E = 0→x = y))∧(E≠0→x = dcz n)
theorem end_code {α:Type} {p:Rd α} {s:ByteArray} {x:α} {k:Nat} {e:Int} (h:Res p s 4 0 x k e) (h1:pfxB s obl = true):(if k < s.size then errC e 15 else e) = rdErr p s∧(rdErr p s = 0→p ((al s).drop 4) = .ok x (s.size - 4)):=by
 have hs:=pfx_size h1
 have e4:obl.size = 4:=rfl
 have h3:=h.2.2 rfl
 have h0:=h.1
 unfold rdErr errC
 have hA:¬ (s.size < 4∧pfxB obl s = true):=fun q => by have:=q.1; omega
 have hB:¬ pfxB s obl = false:=by rw [h1]; decide
 rw [if_neg hA,if_neg hB]
 cases hq:p ((al s).drop 4) with
 | ok y n =>
  rw [hq] at h3
  simp only at h3 ⊢
  obtain ⟨a,b,c⟩:=h3
  subst a b c
  by_cases hn:4 + n < s.size
  ·simp [hn]
  simp [hn]
  omega
 | err E =>
  rw [hq] at h3
  simp only at h3 ⊢
  obtain ⟨a,b⟩:=h3
  subst a
  exact ⟨by split <;> simp,fun q => absurd q b⟩
theorem decD_err {n:Nat} {s:ByteArray} {w w':World} {E:Int} (h:rdErr (dcR n) s = E) (h0:E≠0) (hb:Below w.heap.size w w'):DecD n s w (.returned (.tuple #[.agg #[.slice none 0 0,.slice none 0 0,.int .i64 0,.int .i64 0,.slice none 0 0,.slice none 0 0,.slice none 0 0,.slice none 0 0,.slice none 0 0,.slice none 0 0,.slice none 0 0],.int .i64 E])) w' :=
 ⟨hb,[.slice none 0 0,.slice none 0 0,.int .i64 0,.int .i64 0,.slice none 0 0,.slice none 0 0,.slice none 0 0,.slice none 0 0,.slice none 0 0,.slice none 0 0,.slice none 0 0],dcz n,E,rfl,dcz_rep n _ _,one_z,fun _ => h.symm,fun q => absurd (h.symm.trans q) h0,fun _ => rfl⟩
theorem size47s:(Tryz.prog.info? 47).map (·.size) = some 4:=by kernel_rfl
theorem Dec38 (n:Nat) (s:ByteArray) (w:World) (hs0:s.size≤10485764) (hn:s.size < n):Calls Tryz.prog 38 #[.string s] w (DecD n s w):=by
 have hs:s.size≤549755813888:=by omega
 have h4:obl.size = 4:=rfl
 obtain ⟨q1,hq1⟩:=gX (pfxB obl s)
 obtain ⟨q2,hq2⟩:=gX (pfxB s obl)
 have C1:Hid (∀ W,Calls Tryz.prog 90 #[.string ⟨#[79,66,76,49]⟩,.string s] W fun e w' => e = .returned (.bool q1)∧W = w'):=qH (fun W => by rw [hq1]; exact pfx90 obl s W)
 have C2:Hid (∀ W,Calls Tryz.prog 90 #[.string s,.string ⟨#[79,66,76,49]⟩] W fun e w' => e = .returned (.bool q2)∧W = w'):=qH (fun W => by rw [hq2]; exact pfx90 s obl W)
 obtain ⟨q0,hq0⟩:=gX ((decide (s.size < 4) && q1))
 have HQ0:=qH hq0
 have HQ1:=qH hq1
 have HQ2:=qH hq2
 have HZ0:Hid ((w.alloc (.cells #[.slice none 0 0,.slice none 0 0,.int .i64 0,.int .i64 0,.slice none 0 0,.slice none 0 0,.slice none 0 0,.slice none 0 0,.slice none 0 0,.slice none 0 0,.slice none 0 0] 49)).heap[w.heap.size]? = some (.cells #[.slice none 0 0,.slice none 0 0,.int .i64 0,.int .i64 0,.slice none 0 0,.slice none 0 0,.slice none 0 0,.slice none 0 0,.slice none 0 0,.slice none 0 0,.slice none 0 0] 49 (0,0))):=qH (heap_alloc_new w _)
 have HB0:Hid (Below w.heap.size w (w.alloc (.cells #[.slice none 0 0,.slice none 0 0,.int .i64 0,.int .i64 0,.slice none 0 0,.slice none 0 0,.slice none 0 0,.slice none 0 0,.slice none 0 0,.slice none 0 0,.slice none 0 0] 49))):=qH (ag w _)
 clear hq0 hq1 hq2
 go_enter Tryz.func38,Tryz.ntmps38
 go_upto_region 1 with fail
 go_cut [8] from 9 to 15 (fun bv wc => bv = .bool q0∧(w.alloc (.cells #[.slice none 0 0,.slice none 0 0,.int .i64 0,.int .i64 0,.slice none 0 0,.slice none 0 0,.slice none 0 0,.slice none 0 0,.slice none 0 0,.slice none 0 0,.slice none 0 0] 49)) = wc)
 case first =>
  by_cases p1:s.size < 4
  ·have f1:decide ((s.size:Int) < 4) = true:=by simp; omega
   have f2:decide (s.size < 4) = true:=by simpa using p1
   have dF:=qH (show q0 = q1 by rw [HQ0.out,f2]; rfl)
   clear p1
   go_wp2_with fail
   refine (C1.out _).mono ?_
   rintro e w1 ⟨rfl,rfl⟩
   go_wp2_with fail
   go_meet
   exact ⟨by rw [dF.out],rfl⟩
  have f1:decide ((s.size:Int) < 4) = false:=by simp; omega
  have f2:decide (s.size < 4) = false:=by simpa using p1
  have dF:=qH (show q0 = false by rw [HQ0.out,f2]; rfl)
  clear p1
  go_wp2_with fail
  go_meet
  exact ⟨by rw [dF.out],rfl⟩
 obtain ⟨rfl,rfl⟩:=hcut
 cases q0
 case true =>
  have HE:=qH (show rdErr (dcR n) s = 34 by
   have:=HQ0.out
   simp at this
   unfold rdErr
   rw [if_pos ⟨this.1,by rw [<- HQ1.out,this.2]⟩])
  clear C1 C2 HQ0 HQ1 HQ2
  go_upto_region 2 with fail
  refine af (by rfl) ?_
  simp only [List.map]
  refine sq1 (.agg #[.slice none 0 0,.slice none 0 0,.int .i64 0,.int .i64 0,.slice none 0 0,.slice none 0 0,.slice none 0 0,.slice none 0 0,.slice none 0 0,.slice none 0 0,.slice none 0 0]) ?_
  refine au 49 _ _ rfl rfl (w.heap.size) 49 _ [.slice none 0 0,.slice none 0 0,.int .i64 0,.int .i64 0,.slice none 0 0,.slice none 0 0,.slice none 0 0,.slice none 0 0,.slice none 0 0,.slice none 0 0,.slice none 0 0] rfl rfl HZ0.out bx one_z rfl ?_
  intro wz hz2 hgz
  refine ⟨trivial,?_⟩
  refine sq1i 34 ?_
  have HBz:=qH (below_store HB0.out.size hgz (Nat.le_refl _) |> HB0.out.trans)
  clear hgz
  refine ad ?_
  go_wp2_with fail
  refine bodyPost_ret (v:=.tuple #[.agg #[.slice none 0 0,.slice none 0 0,.int .i64 0,.int .i64 0,.slice none 0 0,.slice none 0 0,.slice none 0 0,.slice none 0 0,.slice none 0 0,.slice none 0 0,.slice none 0 0],.int .i64 34]) (bt rfl _ _ (w.heap.size) 49 #[.slice none 0 0,.slice none 0 0,.int .i64 0,.int .i64 0,.slice none 0 0,.slice none 0 0,.slice none 0 0,.slice none 0 0,.slice none 0 0,.slice none 0 0,.slice none 0 0] (0,0) _ _ rfl rfl hz2 Tryz.underlying49 rfl bx) rfl ?_
  exact decD_err HE.out (by decide) HBz.out
 have HN0:=qH (show ¬ (s.size < 4∧pfxB obl s = true) from fun e => by have:=HQ0.out; rw [HQ1.out] at this; simp [e.1,e.2] at this)
 clear HQ0 HQ1 C1
 go_wp2_with fail
 refine (C2.out _).mono ?_
 rintro e w1 ⟨rfl,rfl⟩
 clear C2
 cases q2
 case false =>
  have HE:=qH (show rdErr (dcR n) s = 35 by unfold rdErr; rw [if_neg HN0.out,if_pos HQ2.out.symm])
  clear HQ2 HN0
  go_upto_region 4 with fail
  refine af (by rfl) ?_
  simp only [List.map]
  refine sq1 (.agg #[.slice none 0 0,.slice none 0 0,.int .i64 0,.int .i64 0,.slice none 0 0,.slice none 0 0,.slice none 0 0,.slice none 0 0,.slice none 0 0,.slice none 0 0,.slice none 0 0]) ?_
  refine au 49 _ _ rfl rfl (w.heap.size) 49 _ [.slice none 0 0,.slice none 0 0,.int .i64 0,.int .i64 0,.slice none 0 0,.slice none 0 0,.slice none 0 0,.slice none 0 0,.slice none 0 0,.slice none 0 0,.slice none 0 0] rfl rfl HZ0.out bx one_z rfl ?_
  intro wz hz2 hgz
  refine ⟨trivial,?_⟩
  refine sq1i 35 ?_
  have HBz:=qH (below_store HB0.out.size hgz (Nat.le_refl _) |> HB0.out.trans)
  clear hgz
  refine ad ?_
  go_wp2_with fail
  refine bodyPost_ret (v:=.tuple #[.agg #[.slice none 0 0,.slice none 0 0,.int .i64 0,.int .i64 0,.slice none 0 0,.slice none 0 0,.slice none 0 0,.slice none 0 0,.slice none 0 0,.slice none 0 0,.slice none 0 0],.int .i64 35]) (bt rfl _ _ (w.heap.size) 49 #[.slice none 0 0,.slice none 0 0,.int .i64 0,.int .i64 0,.slice none 0 0,.slice none 0 0,.slice none 0 0,.slice none 0 0,.slice none 0 0,.slice none 0 0,.slice none 0 0] (0,0) _ _ rfl rfl hz2 Tryz.underlying49 rfl bx) rfl ?_
  exact decD_err HE.out (by decide) HBz.out
 have hp4:4≤s.size:=by have:=pfx_size HQ2.out.symm; omega
 have HZ:(((w.alloc (.cells #[.slice none 0 0,.slice none 0 0,.int .i64 0,.int .i64 0,.slice none 0 0,.slice none 0 0,.slice none 0 0,.slice none 0 0,.slice none 0 0,.slice none 0 0,.slice none 0 0] 49)).alloc (.cells #[.string s,.int .i64 4,.int .i64 0] 99)).alloc (.cells #[.slice none 0 0,.slice none 0 0,.int .i64 0,.int .i64 0,.slice none 0 0,.slice none 0 0,.slice none 0 0,.slice none 0 0,.slice none 0 0,.slice none 0 0,.slice none 0 0] 49)).heap[w.heap.size]? = some (.cells #[.slice none 0 0,.slice none 0 0,.int .i64 0,.int .i64 0,.slice none 0 0,.slice none 0 0,.slice none 0 0,.slice none 0 0,.slice none 0 0,.slice none 0 0,.slice none 0 0] 49 (0,0)):=(Below.heap_alloc _ _ _ (by simp; omega)).trans ((Below.heap_alloc _ _ _ (by simp)).trans (heap_alloc_new w _))
 obtain ⟨k0,e0,hk0,he0,I0⟩:∃ (k0:Nat) (e0:Int),k0 = 4∧e0 = 0∧InvN 49 99 (w.heap.size + 1) (w.heap.size + 2) s w (w.heap.size + 3) k0 e0 #[.slice none 0 0,.slice none 0 0,.int .i64 0,.int .i64 0,.slice none 0 0,.slice none 0 0,.slice none 0 0,.slice none 0 0,.slice none 0 0,.slice none 0 0,.slice none 0 0] (((w.alloc (.cells #[.slice none 0 0,.slice none 0 0,.int .i64 0,.int .i64 0,.slice none 0 0,.slice none 0 0,.slice none 0 0,.slice none 0 0,.slice none 0 0,.slice none 0 0,.slice none 0 0] 49)).alloc (.cells #[.string s,.int .i64 4,.int .i64 0] 99)).alloc (.cells #[.slice none 0 0,.slice none 0 0,.int .i64 0,.int .i64 0,.slice none 0 0,.slice none 0 0,.slice none 0 0,.slice none 0 0,.slice none 0 0,.slice none 0 0,.slice none 0 0] 49)):=⟨4,0,rfl,rfl,⟨(Below.heap_alloc _ _ _ (by simp)).trans (ah _ _ (by simp)),hp4,ah _ _ (by simp),az (az (az (aQ w (some (w.heap.size + 1))) _) _) _,by omega,by omega,by omega,by omega,by simp⟩⟩
 have D0:e0 = 0→s.size - k0 < n:=fun _ => by omega
 clear HZ0 HB0 HN0
 go_upto_region 7 with fail
 obtain ⟨W,hW⟩:=gX ((((w.alloc (.cells #[.slice none 0 0,.slice none 0 0,.int .i64 0,.int .i64 0,.slice none 0 0,.slice none 0 0,.slice none 0 0,.slice none 0 0,.slice none 0 0,.slice none 0 0,.slice none 0 0] 49)).alloc (.cells #[.string s,.int .i64 4,.int .i64 0] 99)).alloc (.cells #[.slice none 0 0,.slice none 0 0,.int .i64 0,.int .i64 0,.slice none 0 0,.slice none 0 0,.slice none 0 0,.slice none 0 0,.slice none 0 0,.slice none 0 0,.slice none 0 0] 49)))
 rw [<- hW] at HZ I0 ⊢
 clear hW
 refine af (by rfl) ?_
 simp only [List.map]
 refine sq1p (w.heap.size + 1) 0 ?_
 refine ae 65 #[.pointer (some ⟨w.heap.size + 1,0,none⟩)] (by go_simp) ?_
 refine Calls.mono (rd_items s hs n (w.heap.size + 1) k0 e0 _ I0.rdr I0.le D0) ?_
 rintro e w1 ⟨v1,l1,k1,e1,rfl,F1,h1,hg,hs1⟩
 replace HZ:=(hg.block _ (ac HZ) (fun q => by injection q with q; omega)).trans HZ
 have I1:=I0.call h1 hs1.1 hg
 have aw1:=I0.aw
 replace F1:=Slv.since (aZ n) (a0:=w.heap.size + 3) F1 aw1
 clear I0 h1 hg
 have D1:=bg D0 hs1
 clear D0
 refine ⟨_,rfl,trivial,?_⟩
 simp only [Act.put,PutA,PutZ,PutS]
 refine sq1p (w.heap.size + 1) 0 ?_
 refine ae 91 #[.pointer (some ⟨w.heap.size + 1,0,none⟩)] (by go_simp) ?_
 refine Calls.mono (rd91 (w.heap.size + 1) k1 s e1 _ I1.rdr I1.le hs) ?_
 rintro e w2 ⟨vs2,x2,k2,e2,rfl,hl2,o2,F2,h2,hg,hs2⟩
 replace HZ:=(hg.block _ (ac HZ) (fun q => by injection q with q; omega)).trans HZ
 have I2:=I1.call h2 hs2.1 hg
 have aw2:=I1.aw
 replace F2:=Stb.since aK (a0:=w.heap.size + 3) F2 aw2
 replace F1:=F1.grow (aZ n) hg (by omega)
 clear I1 h2 hg
 have D2:=bg D1 hs2
 clear D1
 refine ⟨_,rfl,trivial,?_⟩
 simp only [Act.put,PutA,PutZ,PutS]
 refine sq1p (w.heap.size + 1) 0 ?_
 refine ae 92 #[.pointer (some ⟨w.heap.size + 1,0,none⟩)] (by go_simp) ?_
 refine Calls.mono (rd92 (w.heap.size + 1) k2 s e2 _ I2.rdr I2.le hs) ?_
 rintro e w3 ⟨v3,l3,k3,e3,rfl,F3,h3,hg,hs3⟩
 replace HZ:=(hg.block _ (ac HZ) (fun q => by injection q with q; omega)).trans HZ
 have I3:=I2.call h3 hs3.1 hg
 have aw3:=I2.aw
 replace F3:=Slv.since bC (a0:=w.heap.size + 3) F3 aw3
 replace F1:=F1.grow (aZ n) hg (by omega)
 replace F2:=Stb.grow aK hg (by omega) F2
 clear I2 h3 hg
 have D3:=bg D2 hs3
 clear D2
 refine ⟨_,rfl,trivial,?_⟩
 simp only [Act.put,PutA,PutZ,PutS]
 refine sq1p (w.heap.size + 1) 0 ?_
 refine ae 83 #[.pointer (some ⟨w.heap.size + 1,0,none⟩)] (by go_simp) ?_
 refine Calls.mono (rd83 (w.heap.size + 1) k3 s e3 _ I3.rdr I3.le hs) ?_
 rintro e w4 ⟨vs4,x4,k4,e4,rfl,hl4,o4,F4,h4,hg,hs4⟩
 replace HZ:=(hg.block _ (ac HZ) (fun q => by injection q with q; omega)).trans HZ
 have I4:=I3.call h4 hs4.1 hg
 have aw4:=I3.aw
 replace F4:=Stb.since stb_stg (a0:=w.heap.size + 3) F4 aw4
 replace F1:=F1.grow (aZ n) hg (by omega)
 replace F2:=Stb.grow aK hg (by omega) F2
 replace F3:=F3.grow bC hg (by omega)
 clear I3 h4 hg
 have D4:=bg D3 hs4
 clear D3
 refine ⟨_,rfl,trivial,?_⟩
 simp only [Act.put,PutA,PutZ,PutS]
 obtain ⟨A1,c1,hv1,_,_⟩:=F1.shape
 subst hv1
 obtain ⟨A3,c3,hv3,_,_⟩:=F3.shape
 subst hv3
 obtain ⟨n1,hn1⟩:=gX (l1.length)
 obtain ⟨n3,hn3⟩:=gX (l3.length)
 rw [<- hn1] at F1 ⊢
 rw [<- hn3] at F3 ⊢
 obtain ⟨u20,u21,u22,u23,u24,rfl⟩:∃ a b c d e,vs2 = [a,b,c,d,e]:=by
  match vs2,hl2 with
  | [a,b,c,d,e],_ => exact ⟨a,b,c,d,e,rfl⟩
 obtain ⟨u40,u41,u42,u43,rfl⟩:∃ a b c d,vs4 = [a,b,c,d]:=by
  match vs4,hl4 with
  | [a,b,c,d],_ => exact ⟨a,b,c,d,rfl⟩
 clear hn1 hn3 hl2 hl4 aw1 aw2 aw3 aw4
 refine sq1p (w.heap.size + 2) 0 ?_
 refine am 33 _ _ rfl rfl (w.heap.size + 2) 0 49 _ #[.slice A1 n1 c1,.slice none 0 0,.int .i64 0,.int .i64 0,.slice none 0 0,.slice none 0 0,.slice none 0 0,.slice none 0 0,.slice none 0 0,.slice none 0 0,.slice none 0 0] [.slice A1 n1 c1] rfl rfl I4.blk sz33 (one1 rfl) rfl (by simp) ?_
 intro w' hb hg
 replace HZ:=(hg.block _ (ac HZ) (fun q => by injection q with q; omega)).trans HZ
 replace I4:=I4.store hb hg
 replace F1:=F1.grow (aZ n) hg (by omega)
 replace F2:=Stb.grow aK hg (by omega) F2
 replace F3:=F3.grow bC hg (by omega)
 replace F4:=Stb.grow stb_stg hg (by omega) F4
 clear hb hg
 refine ⟨trivial,?_⟩
 refine sq1p (w.heap.size + 2) 1 ?_
 refine am 40 _ _ rfl rfl (w.heap.size + 2) 1 49 _ #[.slice A1 n1 c1,u20,u21,u22,u23,u24,.slice none 0 0,.slice none 0 0,.slice none 0 0,.slice none 0 0,.slice none 0 0] [u20,u21,u22,u23,u24] rfl rfl I4.blk sz40 o2 rfl (by simp) ?_
 intro w' hb hg
 replace HZ:=(hg.block _ (ac HZ) (fun q => by injection q with q; omega)).trans HZ
 replace I4:=I4.store hb hg
 replace F1:=F1.grow (aZ n) hg (by omega)
 replace F2:=Stb.grow aK hg (by omega) F2
 replace F3:=F3.grow bC hg (by omega)
 replace F4:=Stb.grow stb_stg hg (by omega) F4
 clear hb hg
 refine ⟨trivial,?_⟩
 refine sq1p (w.heap.size + 2) 6 ?_
 refine am 41 _ _ rfl rfl (w.heap.size + 2) 6 49 _ #[.slice A1 n1 c1,u20,u21,u22,u23,u24,.slice A3 n3 c3,.slice none 0 0,.slice none 0 0,.slice none 0 0,.slice none 0 0] [.slice A3 n3 c3] rfl rfl I4.blk sz41 (one1 rfl) rfl (by simp) ?_
 intro w' hb hg
 replace HZ:=(hg.block _ (ac HZ) (fun q => by injection q with q; omega)).trans HZ
 replace I4:=I4.store hb hg
 replace F1:=F1.grow (aZ n) hg (by omega)
 replace F2:=Stb.grow aK hg (by omega) F2
 replace F3:=F3.grow bC hg (by omega)
 replace F4:=Stb.grow stb_stg hg (by omega) F4
 clear hb hg
 refine ⟨trivial,?_⟩
 refine sq1p (w.heap.size + 2) 7 ?_
 refine am 47 _ _ rfl rfl (w.heap.size + 2) 7 49 _ #[.slice A1 n1 c1,u20,u21,u22,u23,u24,.slice A3 n3 c3,u40,u41,u42,u43] [u40,u41,u42,u43] rfl rfl I4.blk size47s o4 rfl (by simp) ?_
 intro w' hb hg
 replace HZ:=(hg.block _ (ac HZ) (fun q => by injection q with q; omega)).trans HZ
 replace I4:=I4.store hb hg
 replace F1:=F1.grow (aZ n) hg (by omega)
 replace F2:=Stb.grow aK hg (by omega) F2
 replace F3:=F3.grow bC hg (by omega)
 replace F4:=Stb.grow stb_stg hg (by omega) F4
 clear hb hg
 refine ⟨trivial,?_⟩
 refine ad ?_
 have FR:dcP n _ (Since (w.heap.size + 3) _) [.slice A1 n1 c1,u20,u21,u22,u23,u24,.slice A3 n3 c3,u40,u41,u42,u43] (l1,x2,l3,x4):=⟨_,_,_,_,_,_,_,_,_,_,_,rfl,F1,F2,F3,by obtain ⟨a,b,c,d,q,r⟩:=F4; exact ⟨a,b,c,d,q,r⟩⟩
 have hone:∀ u∈[.slice A1 n1 c1,u20,u21,u22,u23,u24,.slice A3 n3 c3,u40,u41,u42,u43],u.oneCell' = true:=by
  intro u hu
  simp only [List.mem_cons,List.not_mem_nil,or_false] at hu
  rcases hu with rfl | h | h | h | h | h | rfl | h | h | h | h
  ·rfl
  ·exact o2 u (by simp [h])
  ·exact o2 u (by simp [h])
  ·exact o2 u (by simp [h])
  ·exact o2 u (by simp [h])
  ·exact o2 u (by simp [h])
  ·rfl
  ·exact o4 u (by simp [h])
  ·exact o4 u (by simp [h])
  ·exact o4 u (by simp [h])
  exact o4 u (by simp [h])
 have hsA:Res (dcR n) s k0 e0 (l1,x2,l3,x4) k4 e4:=hs1.seq (hs2.seq (hs3.seq hs4))
 rw [hk0,he0] at hsA
 obtain ⟨hc1,hc2⟩:=end_code hsA HQ2.out.symm
 obtain ⟨x,hx⟩:∃ x:Dc n,x = (l1,x2,l3,x4):=⟨_,rfl⟩
 rw [<- hx] at FR hc2
 clear hs1 hs2 hs3 hs4 hsA F1 F2 F3 F4 D4 HQ2 hx o2 o4
 go_upto_region 8 with fail
 refine af (by rfl) ?_
 simp only [List.map]
 refine sq1p (w.heap.size + 1) 0 ?_
 refine ae 66 #[.pointer (some ⟨w.heap.size + 1,0,none⟩)] (by go_simp) ?_
 refine Calls.mono (end66 (w.heap.size + 1) k4 s e4 _ I4.rdr) ?_
 rintro e w5 ⟨rfl,hg⟩
 rw [hc1]
 clear hc1
 replace HZ:=(hg.block _ (ac HZ) (fun q => by injection q with q; omega)).trans HZ
 have hb:=(hg.block _ (ac I4.blk) (fun q => by injection q with q; omega)).trans I4.blk
 have HG:=qH (aD I4.grown hg)
 replace FR:=Stb.grow (bG n) hg (by omega) FR
 have haw:=Nat.le_trans I4.aw hg.size
 clear I4 hg hk0 he0
 obtain ⟨E,hE⟩:=gX (rdErr (dcR n) s)
 rw [<- hE] at hc2 ⊢
 refine ⟨_,rfl,trivial,?_⟩
 simp only [Act.put,PutA,PutZ,PutS]
 refine sq1i E ?_
 refine ad ?_
 have hc3:=qH hc2
 have HE:=qH hE
 have HON:=qH hone
 have HFR:=qH FR
 clear hc2 hE hone FR
 rcases Int.decEq E 0 with he | he
 ·have d0:(E != 0) = true:=by simpa using he
  have d1:(E == 0) = false:=by simpa using he
  have HNE:=qH he
  clear hb he
  go_upto_region 10 with fail
  refine af (by rfl) ?_
  simp only [List.map]
  refine sq1 (.agg #[.slice none 0 0,.slice none 0 0,.int .i64 0,.int .i64 0,.slice none 0 0,.slice none 0 0,.slice none 0 0,.slice none 0 0,.slice none 0 0,.slice none 0 0,.slice none 0 0]) ?_
  refine sq1i E ?_
  refine au 49 _ _ rfl rfl (w.heap.size) 49 _ [.slice none 0 0,.slice none 0 0,.int .i64 0,.int .i64 0,.slice none 0 0,.slice none 0 0,.slice none 0 0,.slice none 0 0,.slice none 0 0,.slice none 0 0,.slice none 0 0] rfl rfl HZ bx one_z rfl ?_
  intro wz hz2 hgz
  refine ⟨trivial,?_⟩
  refine sq1i E ?_
  have HBz:=qH (show Below w.heap.size w wz from ⟨hgz.os.trans HG.out.os,hgz.tape.trans HG.out.tape,hgz.output.trans HG.out.output,Nat.le_trans HG.out.size hgz.size,fun i hi => (hgz.block i (Nat.lt_of_lt_of_le hi HG.out.size) (fun q => by injection q with q; omega)).trans (HG.out.block i hi (fun q => by injection q with q; omega))⟩)
  clear hgz
  refine ad ?_
  go_wp2_with fail
  refine bodyPost_ret (v:=.tuple #[.agg #[.slice none 0 0,.slice none 0 0,.int .i64 0,.int .i64 0,.slice none 0 0,.slice none 0 0,.slice none 0 0,.slice none 0 0,.slice none 0 0,.slice none 0 0,.slice none 0 0],.int .i64 E]) (bt rfl _ _ (w.heap.size) 49 #[.slice none 0 0,.slice none 0 0,.int .i64 0,.int .i64 0,.slice none 0 0,.slice none 0 0,.slice none 0 0,.slice none 0 0,.slice none 0 0,.slice none 0 0,.slice none 0 0] (0,0) _ _ rfl rfl hz2 Tryz.underlying49 rfl bx) rfl ?_
  exact decD_err HE.out.symm HNE.out HBz.out
 subst he
 replace hc3:=qH (hc3.out rfl)
 have hlen:(dcE n x).length≤1048576000:=by
  obtain ⟨_,h2,_⟩:=(fit_dcD n).read _ _ _ (fun b hb => bytesN_lt s b (List.mem_of_mem_drop hb)) hc3.out
  have h3:=congrArg List.length h2
  rw [List.length_take,List.length_drop,ap] at h3
  omega
 have C:=qH (check_doc n _ w5 _ x HFR.out (fun b hb => hb.2) hlen)
 obtain ⟨K,hK⟩:=gX (chkD x)
 rw [<- hK] at C
 have HK:=qH hK
 have Hb:=qH hb
 clear hlen hK hb
 go_upto_region 11 with fail
 refine af (by rfl) ?_
 simp only [List.map]
 refine as_ 49 _ rfl (w.heap.size + 2) 49 #[.slice A1 n1 c1,u20,u21,u22,u23,u24,.slice A3 n3 c3,u40,u41,u42,u43] _ rfl Hb.out Tryz.underlying49 rfl bx trivial ?_
 simp only [Act.put,PutA,PutZ,PutS]
 refine ae 20 #[.agg #[.slice A1 n1 c1,u20,u21,u22,u23,u24,.slice A3 n3 c3,u40,u41,u42,u43]] (by go_simp) ?_
 refine C.out.mono ?_
 rintro e w6 ⟨rfl,hb6⟩
 have HZ6:=ai HZ hb6
 have Hb6:=qH (ai Hb.out hb6)
 have HFR6:=qH (Rp.below (bG n) HFR.out (fun b hb => hb.2) hb6)
 have HBB:Hid (w5.heap.size≤w6.heap.size∧w6.os = w5.os∧w6.tape = w5.tape∧w6.output = w5.output∧∀ i,i < w5.heap.size→w6.heap[i]? = w5.heap[i]?):=qH ⟨hb6.size,hb6.os,hb6.tape,hb6.output,hb6.block⟩
 clear C hb6 Hb HFR HZ
 refine ⟨_,rfl,trivial,?_⟩
 simp only [Act.put,PutA,PutZ,PutS]
 refine sq1i K ?_
 refine ad ?_
 rcases Int.decEq K 0 with hk | hk
 ·have d0:(K != 0) = true:=by simpa using hk
  have d1:(K == 0) = false:=by simpa using hk
  have HKN:=qH hk
  clear hk
  go_upto_region 13 with fail
  refine af (by rfl) ?_
  simp only [List.map]
  refine sq1 (.agg #[.slice none 0 0,.slice none 0 0,.int .i64 0,.int .i64 0,.slice none 0 0,.slice none 0 0,.slice none 0 0,.slice none 0 0,.slice none 0 0,.slice none 0 0,.slice none 0 0]) ?_
  refine sq1i K ?_
  refine au 49 _ _ rfl rfl (w.heap.size) 49 _ [.slice none 0 0,.slice none 0 0,.int .i64 0,.int .i64 0,.slice none 0 0,.slice none 0 0,.slice none 0 0,.slice none 0 0,.slice none 0 0,.slice none 0 0,.slice none 0 0] rfl rfl HZ6 bx one_z rfl ?_
  intro wz hz2 hgz
  refine ⟨trivial,?_⟩
  refine sq1i K ?_
  have HBz:=qH (show Below w.heap.size w wz from ⟨hgz.os.trans (HBB.out.2.1.trans HG.out.os),hgz.tape.trans (HBB.out.2.2.1.trans HG.out.tape),hgz.output.trans (HBB.out.2.2.2.1.trans HG.out.output),Nat.le_trans HG.out.size (Nat.le_trans HBB.out.1 hgz.size),fun i hi => (hgz.block i (Nat.lt_of_lt_of_le hi (Nat.le_trans HG.out.size HBB.out.1)) (fun q => by injection q with q; omega)).trans ((HBB.out.2.2.2.2 i (Nat.lt_of_lt_of_le hi HG.out.size)).trans (HG.out.block i hi (fun q => by injection q with q; omega)))⟩)
  clear hgz
  refine ad ?_
  go_wp2_with fail
  refine bodyPost_ret (v:=.tuple #[.agg #[.slice none 0 0,.slice none 0 0,.int .i64 0,.int .i64 0,.slice none 0 0,.slice none 0 0,.slice none 0 0,.slice none 0 0,.slice none 0 0,.slice none 0 0,.slice none 0 0],.int .i64 K]) (bt rfl _ _ (w.heap.size) 49 #[.slice none 0 0,.slice none 0 0,.int .i64 0,.int .i64 0,.slice none 0 0,.slice none 0 0,.slice none 0 0,.slice none 0 0,.slice none 0 0,.slice none 0 0,.slice none 0 0] (0,0) _ _ rfl rfl hz2 Tryz.underlying49 rfl bx) rfl ?_
  exact ⟨HBz.out,[.slice none 0 0,.slice none 0 0,.int .i64 0,.int .i64 0,.slice none 0 0,.slice none 0 0,.slice none 0 0,.slice none 0 0,.slice none 0 0,.slice none 0 0,.slice none 0 0],dcz n,K,rfl,dcz_rep n _ _,one_z,fun q => absurd HE.out.symm q,fun _ => ⟨x,hc3.out,HK.out,fun q => absurd q HKN.out⟩,fun _ => rfl⟩
 subst hk
 go_upto_region 14 with fail
 refine af (by rfl) ?_
 simp only [List.map]
 refine as_ 49 _ rfl (w.heap.size + 2) 49 #[.slice A1 n1 c1,u20,u21,u22,u23,u24,.slice A3 n3 c3,u40,u41,u42,u43] _ rfl Hb6.out Tryz.underlying49 rfl bx trivial ?_
 simp only [Act.put,PutA,PutZ,PutS]
 refine au 49 _ _ rfl rfl (w.heap.size) 49 _ [.slice A1 n1 c1,u20,u21,u22,u23,u24,.slice A3 n3 c3,u40,u41,u42,u43] rfl rfl HZ6 bx HON.out rfl ?_
 intro wz hz2 hgz
 refine ⟨trivial,?_⟩
 have hR2:=qH (Stb.since (a0:=w.heap.size) (bG n) (Stb.grow (bG n) (a0:=w.heap.size + 3) hgz (by omega) (bG n _ _ _ _ _ _ (fun b hb => ⟨hb.1,Nat.lt_of_lt_of_le hb.2 HBB.out.1⟩) (fun _ _ _ => rfl) HFR6.out)) (by omega))
 refine sq1i 0 ?_
 have HBz:=qH (show Below w.heap.size w wz from ⟨hgz.os.trans (HBB.out.2.1.trans HG.out.os),hgz.tape.trans (HBB.out.2.2.1.trans HG.out.tape),hgz.output.trans (HBB.out.2.2.2.1.trans HG.out.output),Nat.le_trans HG.out.size (Nat.le_trans HBB.out.1 hgz.size),fun i hi => (hgz.block i (Nat.lt_of_lt_of_le hi (Nat.le_trans HG.out.size HBB.out.1)) (fun q => by injection q with q; omega)).trans ((HBB.out.2.2.2.2 i (Nat.lt_of_lt_of_le hi HG.out.size)).trans (HG.out.block i hi (fun q => by injection q with q; omega)))⟩)
 clear hgz
 refine ad ?_
 go_wp2_with fail
 refine bodyPost_ret (v:=.tuple #[.agg #[.slice A1 n1 c1,u20,u21,u22,u23,u24,.slice A3 n3 c3,u40,u41,u42,u43],.int .i64 0]) (bt rfl _ _ (w.heap.size) 49 #[.slice A1 n1 c1,u20,u21,u22,u23,u24,.slice A3 n3 c3,u40,u41,u42,u43] (0,0) _ _ rfl rfl hz2 Tryz.underlying49 rfl bx) rfl ?_
 exact ⟨HBz.out,[.slice A1 n1 c1,u20,u21,u22,u23,u24,.slice A3 n3 c3,u40,u41,u42,u43],x,0,rfl,hR2.out,HON.out,fun q => absurd HE.out.symm q,fun _ => ⟨x,hc3.out,HK.out,fun _ => rfl⟩,fun q => absurd rfl q⟩
end Go.Proofs.YtmhhcfceikcfbaaGreat
