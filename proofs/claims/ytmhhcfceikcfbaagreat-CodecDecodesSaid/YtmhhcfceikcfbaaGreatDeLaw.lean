/- From a contract 'it returns true and leaves what was there' to the given statement: the steps that all laws share; the arguments. -/
import Derived.ProofKit
import Derived.ChangeMaps5
import Derived.Lib.SmallJoins
import Derived.Deep.SlicePairs
import Derived.Deep.Slices
import Derived.Test.YtmhhcfceikcfbaaGreatRows
import Derived.Test.YtmhhcfceikcfbaaGreatChecked
import Derived.Test.YtmhhcfceikcfbaaGreatDeN14
namespace Go.Proofs.YtmhhcfceikcfbaaGreat
open Go.ChangeShapes Go.WideShapes Go.ChangeAt Go.RowKit Go.Joins Go.Deep
set_option maxRecDepth 100000
set_option maxHeartbeats 4000000
theorem Tryz.own:ownKnob Tryz.prog.godebug = none:=by kernel_rfl
theorem Tryz.laidOut:laidOutB Tryz.prog = true:=by kernel_rfl
section
variable {H:Type} {enc:TypeId × Value→H} {P:Program}
theorem trodAll_stays (hl:laidOutB P = true) {W W':World} (hb:Below W.heap.size W W'):∀ (ts:List TypeId) (vs:List Value) (ds:List (DataW H)) (ps:List MemPlace),
  (∀ t∈ts,P.readableRec t = true∧t < P.types.size)→DataW.TrodAll enc P W 0 (fun _ => true) true ts vs ds ps→(∀ x∈ps,x.block < W.heap.size) →
  DataW.TrodAll enc P W' 0 (fun b => decide (b < W.heap.size)) true ts vs ds ps
 | [],[],[],_,_,h,_ => h
 | t::ts,v::vs,d::ds,ps,hr,h,hlt => by
  obtain ⟨p,q,h1,h2,rfl⟩:=h
  have hr1:=hr t (by simp)
  exact ⟨p,q,hb.trod hl hr1.1 hr1.2 h1 (fun x hx => hlt x (by simp [hx])),trodAll_stays hl hb ts vs ds q (fun u hu => hr u (by simp [hu])) h2 (fun x hx => hlt x (by simp [hx])),rfl⟩
 | [],_::_,_,_,_,h,_ => by simp [DataW.TrodAll] at h
 | [],[],_::_,_,_,h,_ => by simp [DataW.TrodAll] at h
 | _::_,[],_,_,_,h,_ => by simp [DataW.TrodAll] at h
 | _::_,_::_,[],_,_,h,_ => by simp [DataW.TrodAll] at h
theorem law_post {f:Func} {s:ChangeSpec} {W W':World} {args:Array Value} {ds:List (DataW H)} {before:List MemPlace} {tb:TypeId} (hl:laidOutB P = true)
  (hW:DataW.Whole enc P f.params.toList s.vars false W args.toList ds [] before) (hv:s.vars = []) (hr:f.resultTypes = #[tb]) (htb:P.underlying tb = some .bool)
  (hfn:s.fn H (ds++[]) = { results:=[.lit (.bool true)],args:=ds }) (hp:∀ t∈f.params.toList,P.readableRec t = true∧t < P.types.size) (hb:Below W.heap.size W W') :
  s.post enc P f false true false false W args (.bool true) W':=by
 have hlt:=hW.lt
 have hW':=hW
 obtain ⟨p,q,hA,hV,hpq,_,_⟩:=hW
 refine ⟨ds,[],before,[],before,[],hW',?_,?_,?_,hb.frame _,fun h => by cases h⟩
 ·rw [hfn,hr]
  exact trodAll_mk1 (shut_bool htb true)
 ·rw [hfn]
  rw [hv] at hV
  simp only [DataW.TrodVars] at hV
  subst hV
  simp only [List.append_nil] at hpq
  subst hpq
  exact trodAll_stays hl hb _ _ _ _ hp hA hlt
 rw [hv,hfn]
 rfl
end
theorem rd_of {P:Program} {ts:List TypeId} (h:ts.all (fun t => P.readableRec t && decide (t < P.types.size)) = true):∀ t∈ts,P.readableRec t = true∧t < P.types.size:=fun t ht => by
 have:=List.all_eq_true.1 h t ht
 simpa using this
set_option maxRecDepth 100000
section
variable {H:Type} {enc:TypeId × Value→H}
theorem str_of_arg {W:World} {r:Reach} {b0:Nat} {v:Value} {d:DataW H} {p:List MemPlace} (hv:Value.okWide Tryz.prog W r b0 9 v) (h:DataW.Trod enc Tryz.prog W 0 (fun _ => true) true 9 v d p):∃ s:ByteArray,v = .string s∧s.size≤9223372036854775807:=by
 obtain ⟨s,rfl,_,_,hs⟩:=ChangeMaps.open_string Tryz.underlying9 hv h
 exact ⟨s,rfl,by simpa [maxLen] using hs⟩
end
end Go.Proofs.YtmhhcfceikcfbaaGreat
namespace Go.Proofs.YtmhhcfceikcfbaaGreat
open Go.RowKit
set_option maxRecDepth 100000
set_option maxHeartbeats 4000000
section
variable {H:Type}
def RdA (enc:TypeId × Value→H) (w:World) {α:Type} (t sz:Nat) (R:Rp α) (e:α→List Nat) (f:Nat):Prop :=
 ∀ (fuel:Nat) (cs:List Value) (y:DataW H × List MemPlace),fuel≤f→DataW.trod enc Tryz.prog w 0 (fun _ => true) true fuel t cs = some y→Rows.uptoBulk y.1≤1048576 →
  cs.length = sz∧∃ x,R w (fun b => b < w.heap.size) cs x∧(e x).length≤10 * Rows.uptoBulk y.1
variable {enc:TypeId × Value→H} {w:World}
theorem RdA.le {α:Type} {t sz:Nat} {R:Rp α} {e:α→List Nat} {f g:Nat} (h:RdA enc w t sz R e f) (hg:g≤f):RdA enc w t sz R e g:=fun fuel cs y hf => h fuel cs y (Nat.le_trans hf hg)
end
end Go.Proofs.YtmhhcfceikcfbaaGreat
namespace Go.Proofs.YtmhhcfceikcfbaaGreat
open Go.RowKit
set_option maxRecDepth 100000
set_option maxHeartbeats 4000000
def chkD {n:Nat} (x:Dc n):Int:=chkT (stgT styT tmpT) x
theorem check_doc (n:Nat) (G:Nat→Prop) (w:World) (vs:List Value) (x:Dc n) (hX:dcP n w G vs x) (hG:∀ b,G b→b < w.heap.size) (hz:(dcE n x).length≤1048576000):Calls Tryz.prog 20 #[.agg vs.toArray] w (RetI (chkD x) w) :=
 Check20 _ (settings47 styT sty98 tmpT tmp205) n G w vs x hX hG hz
def EncR {n:Nat} (x:Dc n) (w:World) (e:Ending) (w':World):Prop:=e = .returned (.tuple #[.string (if chkD x = 0 then mkB (bE++dcE n x) else ⟨#[]⟩),.int .i64 (chkD x)])∧Below w.heap.size w w'
theorem bz:(Tryz.prog.info? 49).map (·.size) = some 11:=by kernel_rfl
theorem encode21 (n:Nat) (G:Nat→Prop) (w:World) (vs:List Value) (x:Dc n) (hv:dcP n w G vs x) (hG:∀ b,G b→b < w.heap.size) (hz:(dcE n x).length≤1048576000):Calls Tryz.prog 21 #[.agg vs.toArray] w (EncR x w):=by
 by_cases hc:chkD x = 0
 case pos =>
  have C:=qH (check_doc n G (w.alloc (.cells vs.toArray 49)) vs x (Rp.below (stb_dc n) hv hG (ag w _)) (fun b hb => Nat.lt_of_lt_of_le (hG b hb) (ag w _).size) hz)
  rw [hc] at C
  have h:=EncDoc21 n G w vs x hv hG (by have:bE.length = 4:=rfl; rw [List.length_append]; omega) C.out
  unfold EncR
  rw [hc,if_pos rfl]
  exact h
 unfold EncR
 rw [if_neg hc]
 obtain ⟨f0,h0,h1,h2,h3,h4,r0,s0,s1,s2,s3,rfl,A0,A1,A2,A3⟩:=hv
 have hR:dcP n w G [f0,h0,h1,h2,h3,h4,r0,s0,s1,s2,s3] x:=⟨_,_,_,_,_,_,_,_,_,_,_,rfl,A0,A1,A2,A3⟩
 obtain ⟨E,hE⟩:=gX (chkD x)
 obtain ⟨W,hW⟩:=gX (w.alloc (.cells #[f0,h0,h1,h2,h3,h4,r0,s0,s1,s2,s3] 49))
 have hb:W.heap[w.heap.size]? = some (.cells #[f0,h0,h1,h2,h3,h4,r0,s0,s1,s2,s3] 49 (0,0)):=by rw [hW]; exact heap_alloc_new w _
 have hB:Below w.heap.size w W:=by rw [hW]; exact ag w _
 have C:=qH (check_doc n G W _ x (Rp.below (stb_dc n) hR hG hB) (fun b hb => Nat.lt_of_lt_of_le (hG b hb) hB.size) hz)
 rw [<- hE] at C hc ⊢
 obtain ⟨N,hN⟩:=gX (w.heap.size)
 rw [<- hN] at hb
 have HW:=qH hW
 have HN:=qH hN
 have HB:=qH hB
 have HC:=qH hc
 have f1:(E == 0) = false:=by rw [beq_eq_false_iff_ne]; exact hc
 have f2:(E != 0) = true:=by simp [bne,f1]
 clear A0 A1 A2 A3 hR hE hW hN hB hc hz hG
 go_enter Tryz.func21,Tryz.ntmps21
 go_upto_region 1 with fail
 rw [<- HW.out,<- HN.out]
 clear HW
 refine ac (by rfl) ?_
 simp only [List.map]
 refine ar 49 _ rfl N 49 #[f0,h0,h1,h2,h3,h4,r0,s0,s1,s2,s3] _ rfl hb Tryz.underlying49 rfl bz trivial ?_
 simp only [Act.put,PutA,PutZ,PutS]
 refine af 20 #[.agg #[f0,h0,h1,h2,h3,h4,r0,s0,s1,s2,s3]] (by go_simp) ?_
 refine C.out.mono ?_
 rintro e w1 ⟨rfl,hb1⟩
 have HB1:=qH (HB.out.trans (hb1.mono HB.out.size))
 clear C hb1 hb HB
 refine ⟨_,rfl,trivial,?_⟩
 simp only [Act.put,PutA,PutZ,PutS]
 refine sq1i E ?_
 refine ad ?_
 go_wp2_with fail
 go_ret2
 exact ⟨rfl,HB1.out⟩
end Go.Proofs.YtmhhcfceikcfbaaGreat
namespace Go.Proofs.YtmhhcfceikcfbaaGreat
open Go.RowKit
set_option maxRecDepth 100000
set_option maxHeartbeats 4000000
theorem Stb.bet {α:Type} {R:Rp α} (hR:Stb R) {a0:Nat} {w:World} {v:List Value} {l:α} (h:R w (aB a0 w) v l):R w (Bet a0 w.heap.size) v l :=
 hR _ _ _ _ _ _ (fun _ hb => hb) (fun _ _ _ => rfl) h
theorem Stb.unbet {α:Type} {R:Rp α} (hR:Stb R) {a0 a1:Nat} {w:World} {v:List Value} {l:α} (h:R w (Bet a0 a1) v l) (ha:a1≤w.heap.size):R w (aB a0 w) v l :=
 hR _ _ _ _ _ _ (fun _ hb => ⟨hb.1,Nat.lt_of_lt_of_le hb.2 ha⟩) (fun _ _ _ => rfl) h
theorem Stb.bet_grow {α:Type} {R:Rp α} (hR:Stb R) {a0 a1 q:Nat} {w w':World} {v:List Value} {l:α} (h:R w (Bet a0 a1) v l) (hg:w.grownBy w' (some q)) (hq:q < a0):R w' (Bet a0 a1) v l :=
 hR _ _ _ _ _ _ (fun _ hb => hb) (fun b hb hlt => hg.block b hlt (fun e => by injection e with e; have:=hb.1; omega)) h
theorem Stb.bet_below {α:Type} {R:Rp α} (hR:Stb R) {a0 a1:Nat} {w w':World} {v:List Value} {l:α} (h:R w (Bet a0 a1) v l) (hb:Below a1 w w'):R w' (Bet a0 a1) v l :=
 hR _ _ _ _ _ _ (fun _ hb => hb) (fun b h2 _ => hb.block b h2.2) h
theorem one_dc (n:Nat):One (dcP n):=by
 rintro w G vs x ⟨fv,h0,h1,h2,h3,h4,rv,s0,s1,s2,s3,rfl,hf,hh,hr,hs⟩ u hu
 have a1:=one_hd _ _ _ _ hh
 have a2:=one_stg _ _ _ _ hs
 simp only [List.mem_cons,List.not_mem_nil,or_false] at hu a1 a2
 rcases hu with rfl | rfl | rfl | rfl | rfl | rfl | rfl | rfl | rfl | rfl | rfl
 ·exact hf.one
 ·exact a1 _ (by simp)
 ·exact a1 _ (by simp)
 ·exact a1 _ (by simp)
 ·exact a1 _ (by simp)
 ·exact a1 _ (by simp)
 ·exact hr.one
 ·exact a2 _ (by simp)
 ·exact a2 _ (by simp)
 ·exact a2 _ (by simp)
 exact a2 _ (by simp)
theorem lr41 (n:Nat) (r k0:Nat) (s:ByteArray) (e0:Int) (w:World) (h:Rdr 30 r s k0 e0 w) (hk0:k0≤s.size) (hs:s.size≤549755813888) (D0:e0 = 0→s.size - k0 < n) :
  Calls Tryz.prog 41 #[.pointer (some ⟨r,0,none⟩)] w (RecC (dcP n) (dcR n) 11 30 r s k0 e0 w):=by
 have hrl:=ae h
 have I0:InvN 49 30 r (w.heap.size + 1) s w (w.heap.size + 2) k0 e0 #[.slice none 0 0,.slice none 0 0,.int .i64 0,.int .i64 0,.slice none 0 0,.slice none 0 0,.slice none 0 0,.slice none 0 0,.slice none 0 0,.slice none 0 0,.slice none 0 0] ((w.alloc (.cells #[.slice none 0 0,.slice none 0 0,.int .i64 0,.int .i64 0,.slice none 0 0,.slice none 0 0,.slice none 0 0,.slice none 0 0,.slice none 0 0,.slice none 0 0,.slice none 0 0] 49)).alloc (.cells #[.slice none 0 0,.slice none 0 0,.int .i64 0,.int .i64 0,.slice none 0 0,.slice none 0 0,.slice none 0 0,.slice none 0 0,.slice none 0 0,.slice none 0 0,.slice none 0 0] 49)):=⟨(h.alloc _).alloc _,hk0,ah _ _ (by simp),ap (ap (av w (some r)) _) _,by omega,by omega,by omega,by omega,by simp⟩
 have HZ:((w.alloc (.cells #[.slice none 0 0,.slice none 0 0,.int .i64 0,.int .i64 0,.slice none 0 0,.slice none 0 0,.slice none 0 0,.slice none 0 0,.slice none 0 0,.slice none 0 0,.slice none 0 0] 49)).alloc (.cells #[.slice none 0 0,.slice none 0 0,.int .i64 0,.int .i64 0,.slice none 0 0,.slice none 0 0,.slice none 0 0,.slice none 0 0,.slice none 0 0,.slice none 0 0,.slice none 0 0] 49)).heap[w.heap.size]? = some (.cells #[.slice none 0 0,.slice none 0 0,.int .i64 0,.int .i64 0,.slice none 0 0,.slice none 0 0,.slice none 0 0,.slice none 0 0,.slice none 0 0,.slice none 0 0,.slice none 0 0] 49 (0,0)):=(Below.heap_alloc _ _ _ (by simp)).trans (heap_alloc_new w _)
 clear h
 go_enter Tryz.func41,Tryz.ntmps41
 go_upto_region 2 with fail
 refine ac (by rfl) ?_
 simp only [List.map]
 refine sq1p r 0 ?_
 refine af 27 #[.pointer (some ⟨r,0,none⟩)] (by go_simp) ?_
 refine Calls.mono (lr_items s hs n r k0 e0 _ I0.rdr I0.le D0) ?_
 rintro e w1 ⟨v1,x1,k1,e1,rfl,hR1,h1,hg,hs1⟩
 obtain ⟨A1,c1,hv1,_,_⟩:=hR1.shape
 subst hv1
 replace HZ:=(hg.block _ (ae HZ) (fun q => by injection q with q; omega)).trans HZ
 have F1:=Slv.since (aV n) hR1 I0.aw
 clear hR1
 have I1:=I0.call h1 hs1.1 hg
 clear I0 h1 hg
 have D1:=aN D0 hs1
 clear D0
 refine ⟨_,rfl,trivial,?_⟩
 simp only [Act.put,PutA,PutZ,PutS]
 refine sq1p (w.heap.size + 1) 0 ?_
 refine aj 33 _ _ rfl rfl (w.heap.size + 1) 0 49 _ #[.slice A1 x1.length c1,.slice none 0 0,.int .i64 0,.int .i64 0,.slice none 0 0,.slice none 0 0,.slice none 0 0,.slice none 0 0,.slice none 0 0,.slice none 0 0,.slice none 0 0] [.slice A1 x1.length c1] rfl rfl I1.blk sz33 (one1 rfl) rfl (by simp) ?_
 intro w' hb hg
 replace F1:=Slv.grow (aV n) F1 hg (I1.ga)
 replace HZ:=(hg.block _ (ae HZ) (fun q => by injection q with q; omega)).trans HZ
 replace I1:=I1.store hb hg
 clear hb hg
 refine ⟨trivial,ad ?_⟩
 clear D1
 go_upto_region 3 with fail
 refine ac (by rfl) ?_
 simp only [List.map]
 refine sq1p r 0 ?_
 refine af 75 #[.pointer (some ⟨r,0,none⟩)] (by go_simp) ?_
 refine Calls.mono (lr75 r k1 s e1 _ I1.rdr I1.le hs) ?_
 rintro e w2 ⟨vs2,x2,k2,e2,rfl,hl2,ho2,hR2,h2,hg,hs2⟩
 obtain ⟨u2_0,u2_1,u2_2,u2_3,u2_4,rfl⟩:=len_5 hl2
 replace F1:=Slv.grow (aV n) F1 hg (I1.ra)
 replace HZ:=(hg.block _ (ae HZ) (fun q => by injection q with q; omega)).trans HZ
 have F2:=Stb.since ay hR2 I1.aw
 clear hR2
 have I2:=I1.call h2 hs2.1 hg
 clear I1 h2 hg
 refine ⟨_,rfl,trivial,?_⟩
 simp only [Act.put,PutA,PutZ,PutS]
 refine sq1p (w.heap.size + 1) 1 ?_
 refine aj 40 _ _ rfl rfl (w.heap.size + 1) 1 49 _ #[.slice A1 x1.length c1,u2_0,u2_1,u2_2,u2_3,u2_4,.slice none 0 0,.slice none 0 0,.slice none 0 0,.slice none 0 0,.slice none 0 0] [u2_0,u2_1,u2_2,u2_3,u2_4] rfl rfl I2.blk sz40 ho2 rfl (by simp) ?_
 intro w' hb hg
 replace F1:=Slv.grow (aV n) F1 hg (I2.ga)
 replace F2:=Stb.grow ay hg (I2.ga) F2
 replace HZ:=(hg.block _ (ae HZ) (fun q => by injection q with q; omega)).trans HZ
 replace I2:=I2.store hb hg
 clear hb hg
 refine ⟨trivial,ad ?_⟩
 go_upto_region 4 with fail
 refine ac (by rfl) ?_
 simp only [List.map]
 refine sq1p r 0 ?_
 refine af 73 #[.pointer (some ⟨r,0,none⟩)] (by go_simp) ?_
 refine Calls.mono (size73 r k2 s e2 _ I2.rdr I2.le (by omega)) ?_
 rintro e w3 ⟨m1,k3,e3,rfl,hkm1,hn0,h3,hg,hsz1⟩
 replace F1:=Slv.grow (aV n) F1 hg (I2.ra)
 replace F2:=Stb.grow ay hg (I2.ra) F2
 replace HZ:=(hg.block _ (ae HZ) (fun q => by injection q with q; omega)).trans HZ
 have I3:=I2.call h3 hsz1.1 hg
 clear I2 h3 hg hn0
 refine ⟨_,rfl,trivial,?_⟩
 simp only [Act.put,PutA,PutZ,PutS]
 refine sq1i (m1:Int) ?_
 refine ad ?_
 have hms1:m1≤s.size:=by omega
 have HS1:=qH hsz1
 obtain ⟨b1,hb1⟩:=gX (w3.heap.size)
 have hab1:w.heap.size + 2≤b1:=by rw [hb1]; exact I3.aw
 have F1b:=Slv.bet (aV n) F1
 rw [<- hb1] at F1b
 have F2b:=Stb.bet ay F2
 rw [<- hb1] at F2b
 have HI0:Hid (LstI revP 3 141 b1 (.slice none 0 0) [] w3):=qH (LstI.nil _ _ _ _ _)
 have HR0:Hid (InvN 49 30 r (w.heap.size + 1) s w (w.heap.size + 2) k3 e3 #[.slice A1 x1.length c1,u2_0,u2_1,u2_2,u2_3,u2_4,.slice none 0 0,.slice none 0 0,.slice none 0 0,.slice none 0 0,.slice none 0 0] w3∧b1≤w3.heap.size∧Res (aR revR 0) s k3 e3 ([]:List Rev) k3 e3∧w3.heap[w.heap.size]? = some (.cells #[.slice none 0 0,.slice none 0 0,.int .i64 0,.int .i64 0,.slice none 0 0,.slice none 0 0,.slice none 0 0,.slice none 0 0,.slice none 0 0,.slice none 0 0,.slice none 0 0] 49 (0,0))∧Slv (itP n) 11 w3 (Bet (w.heap.size + 2) b1) (.slice A1 x1.length c1) x1∧hdP w3 (Bet (w.heap.size + 2) b1) [u2_0,u2_1,u2_2,u2_3,u2_4] x2):=qH ⟨I3,by omega,Res.many0 _ _ _ _ I3.le,HZ,F1b,F2b⟩
 clear I3 HZ hsz1 hkm1 hb1 F1 F1b F2 F2b
 go_upto_block 0 with fail
 go_cut [] from 14 to 39 (fun wr => ∃ (k:Nat) (e:Int) (c:Nat) (A:Option Addr) (l:List Rev),Hid (InvN 49 30 r (w.heap.size + 1) s w (w.heap.size + 2) k e #[.slice A1 x1.length c1,u2_0,u2_1,u2_2,u2_3,u2_4,.slice A l.length c,.slice none 0 0,.slice none 0 0,.slice none 0 0,.slice none 0 0] wr∧Res (be revR) s k2 e2 l k e∧Slv revP 3 wr (aB (w.heap.size + 2) wr) (.slice A l.length c) l∧wr.heap[w.heap.size]? = some (.cells #[.slice none 0 0,.slice none 0 0,.int .i64 0,.int .i64 0,.slice none 0 0,.slice none 0 0,.slice none 0 0,.slice none 0 0,.slice none 0 0,.slice none 0 0,.slice none 0 0] 49 (0,0))∧Slv (itP n) 11 wr (aB (w.heap.size + 2) wr) (.slice A1 x1.length c1) x1∧hdP wr (aB (w.heap.size + 2) wr) [u2_0,u2_1,u2_2,u2_3,u2_4] x2))
 case first =>
  go_wp2_with fail
  go_loopw [4] (fun nv wr => ∃ (i j k c:Nat) (e:Int) (A:Option Addr) (l:List Rev),nv = .int .i64 (j:Int)∧i + j = m1∧l.length = i∧Hid (LstI revP 3 141 b1 (.slice A i c) l wr)∧Hid (InvN 49 30 r (w.heap.size + 1) s w (w.heap.size + 2) k e #[.slice A1 x1.length c1,u2_0,u2_1,u2_2,u2_3,u2_4,.slice A i c,.slice none 0 0,.slice none 0 0,.slice none 0 0,.slice none 0 0] wr∧b1≤wr.heap.size∧Res (aR revR i) s k3 e3 l k e∧wr.heap[w.heap.size]? = some (.cells #[.slice none 0 0,.slice none 0 0,.int .i64 0,.int .i64 0,.slice none 0 0,.slice none 0 0,.slice none 0 0,.slice none 0 0,.slice none 0 0,.slice none 0 0,.slice none 0 0] 49 (0,0))∧Slv (itP n) 11 wr (Bet (w.heap.size + 2) b1) (.slice A1 x1.length c1) x1∧hdP wr (Bet (w.heap.size + 2) b1) [u2_0,u2_1,u2_2,u2_3,u2_4] x2)) (fun nv _ => (intOf nv).toNat)
  case atStart => exact ⟨0,m1,k3,0,e3,none,[],rfl,by omega,rfl,HI0,HR0⟩
  obtain ⟨i,j,k,c,e,A,l,rfl,hij,hil,HI,HR⟩:=hrel
  clear HI0 HR0
  obtain ⟨rc0,rc1,rc2,rf1,rf2⟩:=HR.out.1.rdr.cells
  by_cases hj:j = 0
  ·subst hj
   have hL:Hid (InvN 49 30 r (w.heap.size + 1) s w (w.heap.size + 2) k e #[.slice A1 x1.length c1,u2_0,u2_1,u2_2,u2_3,u2_4,.slice A l.length c,.slice none 0 0,.slice none 0 0,.slice none 0 0,.slice none 0 0] wr∧Res (be revR) s k2 e2 l k e∧Slv revP 3 wr (aB (w.heap.size + 2) wr) (.slice A l.length c) l∧wr.heap[w.heap.size]? = some (.cells #[.slice none 0 0,.slice none 0 0,.int .i64 0,.int .i64 0,.slice none 0 0,.slice none 0 0,.slice none 0 0,.slice none 0 0,.slice none 0 0,.slice none 0 0,.slice none 0 0] 49 (0,0))∧Slv (itP n) 11 wr (aB (w.heap.size + 2) wr) (.slice A1 x1.length c1) x1∧hdP wr (aB (w.heap.size + 2) wr) [u2_0,u2_1,u2_2,u2_3,u2_4] x2):=qH ⟨by have h:=HR.out.1; rw [hil]; exact h,HS1.out.list (by have h3:=HR.out.2.2.1; rw [show i = m1 by omega] at h3; exact h3),by have h:=(HI.out.slv bg).since bg hab1; rw [hil]; exact h,HR.out.2.2.2.1,Slv.unbet (aV n) HR.out.2.2.2.2.1 HR.out.2.1,Stb.unbet ay HR.out.2.2.2.2.2 HR.out.2.1⟩
   clear HI HR HS1 hij
   go_wp2_with fail
   go_meet
   exact ⟨k,e,c,A,l,hL⟩
  have hj1:(0:Int) < (j:Int):=by omega
  have hj2:decide ((0:Int) < (j:Int)) = true:=by simpa using hj1
  have hj3:0 < j:=by omega
  rcases Int.decEq e 0 with he | he
  ·have d0:(e == 0) = false:=by simpa using he
   have hL:Hid (InvN 49 30 r (w.heap.size + 1) s w (w.heap.size + 2) k e #[.slice A1 x1.length c1,u2_0,u2_1,u2_2,u2_3,u2_4,.slice A l.length c,.slice none 0 0,.slice none 0 0,.slice none 0 0,.slice none 0 0] wr∧Res (be revR) s k2 e2 l k e∧Slv revP 3 wr (aB (w.heap.size + 2) wr) (.slice A l.length c) l∧wr.heap[w.heap.size]? = some (.cells #[.slice none 0 0,.slice none 0 0,.int .i64 0,.int .i64 0,.slice none 0 0,.slice none 0 0,.slice none 0 0,.slice none 0 0,.slice none 0 0,.slice none 0 0,.slice none 0 0] 49 (0,0))∧Slv (itP n) 11 wr (aB (w.heap.size + 2) wr) (.slice A1 x1.length c1) x1∧hdP wr (aB (w.heap.size + 2) wr) [u2_0,u2_1,u2_2,u2_3,u2_4] x2):=qH ⟨by have h:=HR.out.1; rw [hil]; exact h,HS1.out.list (HR.out.2.2.1.manyErr he (by omega)),by have h:=(HI.out.slv bg).since bg hab1; rw [hil]; exact h,HR.out.2.2.2.1,Slv.unbet (aV n) HR.out.2.2.2.2.1 HR.out.2.1,Stb.unbet ay HR.out.2.2.2.2.2 HR.out.2.1⟩
   clear HI HR HS1 hij
   go_wp2_with fail
   go_meet
   exact ⟨k,e,c,A,l,hL⟩
  subst he
  obtain ⟨jj,hjj⟩:∃ jj,j = jj + 1:=⟨j - 1,by omega⟩
  have wj:IntKind.i64.wrap ((j:Int) - 1) = (jj:Int):=by rw [IntKind.wrap_i64] <;> omega
  have hk:k≤s.size:=HR.out.1.le
  have hbr:b1≤wr.heap.size:=HR.out.2.1
  have hra:r < w.heap.size + 2:=HR.out.1.ra
  have hga:w.heap.size + 1 < w.heap.size + 2:=HR.out.1.ga
  have Hjj:=qH hjj
  have hij2:i + jj + 1 = m1:=by omega
  clear hj hjj hij
  have hrw2:r < wr.heap.size:=by omega
  have I0q:InvN 141 30 r wr.heap.size s wr (wr.heap.size + 1) k 0 #[.int .i64 0,.string ⟨#[]⟩,.int .i64 0] (wr.alloc (.cells #[.int .i64 0,.string ⟨#[]⟩,.int .i64 0] 141)):=⟨HR.out.1.rdr.alloc _,hk,heap_alloc_new wr _,ap (av wr (some r)) _,by omega,Nat.le_refl _,by omega,by omega,by simp⟩
  obtain ⟨k0q,hk_0⟩:=gX (k)
  rw [<- hk_0] at I0q
  clear rc0 rc1 rf1 rf2
  go_upto_region 8 with fail
  refine ac (by rfl) ?_
  simp only [List.map]
  refine sq1p r 0 ?_
  refine af 17 #[.pointer (some ⟨r,0,none⟩)] (by go_simp) ?_
  refine Calls.mono (aD r k0q s 0 _ I0q.rdr I0q.le (by omega)) ?_
  rintro e w1q ⟨x1q,k1q,e1q,rfl,hx1q,h1q,hg,hs1q⟩
  have I1q:=I0q.call h1q hs1q.1 hg
  clear I0q h1q hg
  refine ⟨_,rfl,trivial,?_⟩
  simp only [Act.put,PutA,PutZ,PutS]
  refine sq1p (wr.heap.size) 0 ?_
  refine aj 3 _ _ rfl rfl (wr.heap.size) 0 141 _ #[.int .i64 x1q,.string ⟨#[]⟩,.int .i64 0] [.int .i64 x1q] rfl rfl I1q.blk sz3 (one1 rfl) rfl (by simp) ?_
  intro w' hb hg
  replace I1q:=I1q.store hb hg
  clear hb hg
  refine ⟨trivial,?_⟩
  refine ad ?_
  go_upto_region 9 with fail
  refine ac (by rfl) ?_
  simp only [List.map]
  refine sq1p r 0 ?_
  refine af 74 #[.pointer (some ⟨r,0,none⟩)] (by go_simp) ?_
  refine Calls.mono (text74 r k1q s e1q _ I1q.rdr I1q.le (by omega)) ?_
  rintro e w2q ⟨x2q,k2q,e2q,rfl,hx2q,h2q,hg,hs2q⟩
  have I2q:=I1q.call h2q hs2q.1 hg
  clear I1q h2q hg
  refine ⟨_,rfl,trivial,?_⟩
  simp only [Act.put,PutA,PutZ,PutS]
  refine sq1p (wr.heap.size) 1 ?_
  refine aj 9 _ _ rfl rfl (wr.heap.size) 1 141 _ #[.int .i64 x1q,.string x2q,.int .i64 0] [.string x2q] rfl rfl I2q.blk sz9 (one1 rfl) rfl (by simp) ?_
  intro w' hb hg
  replace I2q:=I2q.store hb hg
  clear hb hg
  refine ⟨trivial,?_⟩
  refine ad ?_
  go_upto_region 10 with fail
  refine ac (by rfl) ?_
  simp only [List.map]
  refine sq1p r 0 ?_
  refine af 17 #[.pointer (some ⟨r,0,none⟩)] (by go_simp) ?_
  refine Calls.mono (aD r k2q s e2q _ I2q.rdr I2q.le (by omega)) ?_
  rintro e w3q ⟨x3q,k3q,e3q,rfl,hx3q,h3q,hg,hs3q⟩
  have I3q:=I2q.call h3q hs3q.1 hg
  clear I2q h3q hg
  refine ⟨_,rfl,trivial,?_⟩
  simp only [Act.put,PutA,PutZ,PutS]
  refine sq1p (wr.heap.size) 2 ?_
  refine aj 3 _ _ rfl rfl (wr.heap.size) 2 141 _ #[.int .i64 x1q,.string x2q,.int .i64 x3q] [.int .i64 x3q] rfl rfl I3q.blk sz3 (one1 rfl) rfl (by simp) ?_
  intro w' hb hg
  replace I3q:=I3q.store hb hg
  clear hb hg
  refine ⟨trivial,?_⟩
  refine ad ?_
  have FRq:revP w' (aB (wr.heap.size + 1) w') [.int .i64 x1q,.string x2q,.int .i64 x3q] (x1q,x2q,x3q):=⟨rfl,hx1q,Nat.le_trans hx2q (by omega),hx3q⟩
  have honeq:=one_rev _ _ _ _ FRq
  clear rc2
  have hI1:=HR.out.1.call I3q.rdr I3q.le I3q.grown
  have hZ1:=(I3q.grown.block _ (ae HR.out.2.2.2.1) (fun q => by injection q with q; omega)).trans HR.out.2.2.2.1
  have HL1:=HI.out.grow bg I3q.grown (Nat.lt_of_lt_of_le hra hab1)
  have hF0:=Slv.bet_grow (aV n) HR.out.2.2.2.2.1 I3q.grown hra
  have hF1:=Stb.bet_grow ay HR.out.2.2.2.2.2 I3q.grown hra
  go_upto_region 11 with fail
  refine ac (by rfl) ?_
  simp only [List.map]
  have hcell:=aa hI1.blk 6
  refine sq1p (w.heap.size + 1) 6 ?_
  refine sq1 (.slice A i c) ?_
  clear hcell
  refine ar 141 _ rfl (wr.heap.size) 141 #[.int .i64 x1q,.string x2q,.int .i64 x3q] _ rfl I3q.blk Tryz.underlying141 rfl size141 trivial ?_
  simp only [Act.put,PutA,PutZ,PutS]
  refine au (.slice (some ⟨w'.heap.size,0,none⟩) 1 1) (w'.alloc (.cells #[.int .i64 x1q,.string x2q,.int .i64 x3q] 141)) (by go_simp) trivial ?_
  simp only [Act.put,PutA,PutZ,PutS]
  refine sq_push bg _ _ 41 32 (wr.heap.size + 1) 1 rfl rfl Tryz.underlying41 info141x (by decide) [.int .i64 x1q,.string x2q,.int .i64 x3q] (x1q,x2q,x3q) HL1 rfl rfl honeq FRq (fun g hg => by have:=(HI.out.own_ge g hg).2; omega) (by omega) (Nat.le_trans hbr I3q.grown.size) rfl (by rw [hil]; omega) (by rw [hil]; omega) ?_
  intro v2 w2 hl2 hb2
  obtain ⟨Ax,c2x,hv2⟩:=hl2.shape
  rw [List.length_append,hil] at hv2
  subst hv2
  have hI2:=hI1.below hb2 hab1
  have hZ2:=(hb2.block _ (show w.heap.size < b1 by omega)).trans hZ1
  replace hF0:=Slv.bet_below (aV n) hF0 hb2
  replace hF1:=Stb.bet_below ay hF1 hb2
  have hbw3:b1≤w2.heap.size:=Nat.le_trans hbr (Nat.le_trans I3q.grown.size hb2.size)
  refine ⟨trivial,?_⟩
  simp only [Act.put,PutA,PutZ,PutS]
  refine sq1p (w.heap.size + 1) 6 ?_
  refine aj 41 _ _ rfl rfl (w.heap.size + 1) 6 49 _ #[.slice A1 x1.length c1,u2_0,u2_1,u2_2,u2_3,u2_4,.slice Ax (i + 1) c2x,.slice none 0 0,.slice none 0 0,.slice none 0 0,.slice none 0 0] [.slice Ax (i + 1) c2x] rfl rfl hI2.blk sz41 (one1 rfl) rfl (by simp) ?_
  intro w3 hb hg
  replace hI2:=hI2.store hb hg
  replace hZ2:=(hg.block _ (ae hZ2) (fun q => by injection q with q; omega)).trans hZ2
  have HL3:Hid (LstI revP 3 141 b1 (.slice Ax (i + 1) c2x) (l++[(x1q,x2q,x3q)]) w3):=qH (hl2.grow bg hg (Nat.lt_of_lt_of_le hga hab1))
  replace hF0:=Slv.bet_grow (aV n) hF0 hg hga
  replace hF1:=Stb.bet_grow ay hF1 hg hga
  have HR3:Hid (InvN 49 30 r (w.heap.size + 1) s w (w.heap.size + 2) k3q e3q #[.slice A1 x1.length c1,u2_0,u2_1,u2_2,u2_3,u2_4,.slice Ax (i + 1) c2x,.slice none 0 0,.slice none 0 0,.slice none 0 0,.slice none 0 0] w3∧b1≤w3.heap.size∧Res (aR revR (i + 1)) s k3 e3 (l++[(x1q,x2q,x3q)]) k3q e3q∧w3.heap[w.heap.size]? = some (.cells #[.slice none 0 0,.slice none 0 0,.int .i64 0,.int .i64 0,.slice none 0 0,.slice none 0 0,.slice none 0 0,.slice none 0 0,.slice none 0 0,.slice none 0 0,.slice none 0 0] 49 (0,0))∧Slv (itP n) 11 w3 (Bet (w.heap.size + 2) b1) (.slice A1 x1.length c1) x1∧hdP w3 (Bet (w.heap.size + 2) b1) [u2_0,u2_1,u2_2,u2_3,u2_4] x2):=qH ⟨hI2,Nat.le_trans hbw3 hg.size,HR.out.2.2.1.snoc (by rw [<- hk_0]; exact (hs1q.seq (hs2q.seq hs3q))),hZ2,hF0,hF1⟩
  refine ⟨trivial,ad ?_⟩
  clear hl2 hb2 HL1 hI1 hI2 hZ1 hZ2 hg hb FRq honeq I3q hF0 hF1
  clear HI HR
  go_wp2_with fail
  go_roundw
  case rel => exact ⟨i + 1,jj,k3q,c2x,e3q,Ax,l++[(x1q,x2q,x3q)],by go_num,by omega,by simp [hil],HL3,HR3⟩
  rw [Hjj.out]; simp [intOf]
 obtain ⟨k4,e4,c4,A4,x4,hH⟩:=hcut
 obtain ⟨I4,hs4,F4,HZ,F1,F2⟩:=hH.out
 clear hH
 go_upto_region 12 with fail
 refine ac (by rfl) ?_
 simp only [List.map]
 refine sq1p r 0 ?_
 refine af 95 #[.pointer (some ⟨r,0,none⟩)] (by go_simp) ?_
 refine Calls.mono (lr95 r k4 s e4 _ I4.rdr I4.le hs) ?_
 rintro e w5 ⟨vs5,x5,k5,e5,rfl,hl5,ho5,hR5,h5,hg,hs5⟩
 obtain ⟨u5_0,u5_1,u5_2,u5_3,rfl⟩:=len_4 hl5
 replace F1:=Slv.grow (aV n) F1 hg (I4.ra)
 replace F2:=Stb.grow ay hg (I4.ra) F2
 replace F4:=Slv.grow bg F4 hg (I4.ra)
 replace HZ:=(hg.block _ (ae HZ) (fun q => by injection q with q; omega)).trans HZ
 have F5:=Stb.since stb_stg hR5 I4.aw
 clear hR5
 have I5:=I4.call h5 hs5.1 hg
 clear I4 h5 hg
 refine ⟨_,rfl,trivial,?_⟩
 simp only [Act.put,PutA,PutZ,PutS]
 refine sq1p (w.heap.size + 1) 7 ?_
 refine aj 47 _ _ rfl rfl (w.heap.size + 1) 7 49 _ #[.slice A1 x1.length c1,u2_0,u2_1,u2_2,u2_3,u2_4,.slice A4 x4.length c4,u5_0,u5_1,u5_2,u5_3] [u5_0,u5_1,u5_2,u5_3] rfl rfl I5.blk sz47 ho5 rfl (by simp) ?_
 intro w' hb hg
 replace F1:=Slv.grow (aV n) F1 hg (I5.ga)
 replace F2:=Stb.grow ay hg (I5.ga) F2
 replace F4:=Slv.grow bg F4 hg (I5.ga)
 replace F5:=Stb.grow stb_stg hg (I5.ga) F5
 replace HZ:=(hg.block _ (ae HZ) (fun q => by injection q with q; omega)).trans HZ
 replace I5:=I5.store hb hg
 clear hb hg
 refine ⟨trivial,ad ?_⟩
 have FR:dcP n _ (aB (w.heap.size + 2) _) [.slice A1 x1.length c1,u2_0,u2_1,u2_2,u2_3,u2_4,.slice A4 x4.length c4,u5_0,u5_1,u5_2,u5_3] (x1,x2,x4,x5):=⟨_,_,_,_,_,_,_,_,_,_,_,rfl,F1,F2,F4,F5⟩
 have hone:=(one_dc n) _ _ _ _ FR
 clear F1 F2 F4 F5
 go_upto_region 13 with fail
 refine ac (by rfl) ?_
 simp only [List.map]
 refine ar 49 _ rfl (w.heap.size + 1) 49 #[.slice A1 x1.length c1,u2_0,u2_1,u2_2,u2_3,u2_4,.slice A4 x4.length c4,u5_0,u5_1,u5_2,u5_3] _ rfl I5.blk Tryz.underlying49 rfl bz trivial ?_
 simp only [Act.put,PutA,PutZ,PutS]
 refine as_ 49 _ _ rfl rfl (w.heap.size) 49 _ [.slice A1 x1.length c1,u2_0,u2_1,u2_2,u2_3,u2_4,.slice A4 x4.length c4,u5_0,u5_1,u5_2,u5_3] rfl rfl HZ bz hone rfl ?_
 intro w' hb hg
 have hR2:=Stb.grow (stb_dc n) hg (by omega) FR
 have hr2:=(hg.block r (ae I5.rdr) (fun q => by injection q with q; omega)).trans I5.rdr
 have hG2:w.grownBy w' (some r):=⟨hg.os.trans I5.grown.os,hg.tape.trans I5.grown.tape,hg.output.trans I5.grown.output,Nat.le_trans I5.grown.size hg.size,fun i hi hn => (hg.block i (Nat.lt_of_lt_of_le hi I5.grown.size) (fun q => by injection q with q; omega)).trans (I5.grown.block i hi hn)⟩
 refine ⟨trivial,ad ?_⟩
 clear hg
 go_wp2_with fail
 refine bodyPost_ret (v:=.agg #[.slice A1 x1.length c1,u2_0,u2_1,u2_2,u2_3,u2_4,.slice A4 x4.length c4,u5_0,u5_1,u5_2,u5_3]) (results_cell_row rfl _ _ (w.heap.size) 49 #[.slice A1 x1.length c1,u2_0,u2_1,u2_2,u2_3,u2_4,.slice A4 x4.length c4,u5_0,u5_1,u5_2,u5_3] (0,0) _ rfl hb Tryz.underlying49 rfl bz) rfl ?_
 exact ⟨[.slice A1 x1.length c1,u2_0,u2_1,u2_2,u2_3,u2_4,.slice A4 x4.length c4,u5_0,u5_1,u5_2,u5_3],(x1,x2,x4,x5),k5,e5,rfl,rfl,hone,Stb.since (stb_dc n) hR2 (by omega),hr2,hG2,(hs1.seq (hs2.seq (hs4.seq hs5)))⟩
end Go.Proofs.YtmhhcfceikcfbaaGreat
namespace Go.Proofs.YtmhhcfceikcfbaaGreat
open Go.RowKit Go.WideShapes
set_option maxRecDepth 100000
set_option maxHeartbeats 4000000
section
variable {H:Type} {enc:TypeId × Value→H} {w:World}
theorem revE_ne (x:Rev):revE x≠[]:=by
 intro h
 have h2:=congrArg List.length h
 have h3:=List.length_pos_iff.2 (encN_ne x.1)
 simp only [revE,seqE,List.length_append,List.length_nil] at h2
 omega
def dcD (n:Nat) (x:Dc n):Prop:=Li (itD n) x.1∧hdD x.2.1∧Li revD x.2.2.1∧stgD x.2.2.2
theorem fit_dcD (n:Nat):Fit (dcE n) (dcR n) (dcD n):=(fit_its n).seq (fit_hd.seq ((fit_rev.list revE_ne).seq fit_stg))
theorem byt_dc (n:Nat):Byt (dcE n):=(byt_it n).list.seq (byt_hd.seq (byt_rev.list.seq byt_stg))
end
end Go.Proofs.YtmhhcfceikcfbaaGreat
