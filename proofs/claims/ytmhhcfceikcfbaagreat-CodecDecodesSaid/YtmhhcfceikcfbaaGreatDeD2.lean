/- Walks: DecodeDocument. -/
import Derived.Test.YtmhhcfceikcfbaaGreatDeLaw
namespace Go.Proofs.YtmhhcfceikcfbaaGreat
open Go.RowKit
set_option maxRecDepth 100000
set_option maxHeartbeats 4000000
abbrev obl:ByteArray:=⟨#[79,66,76,49]⟩
def rdErr {α:Type} (p:Rd α) (s:ByteArray):Int:=if s.size < 4∧pfxB obl s = true then 34 else if pfxB s obl = false then 35 else match p ((al s).drop 4) with | .ok _ k => if 4 + k < s.size then 15 else 0 | .err E => E
def dcz (n:Nat):Dc n:=([],hd00,[],([],[],[],[]))
theorem dcz_rep (n:Nat) (w:World) (G:Nat→Prop):dcP n w G [.slice none 0 0,.slice none 0 0,.int .i64 0,.int .i64 0,.slice none 0 0,.slice none 0 0,.slice none 0 0,.slice none 0 0,.slice none 0 0,.slice none 0 0,.slice none 0 0] (dcz n) :=
 ⟨_,_,_,_,_,_,_,_,_,_,_,rfl,Slv.nil _ _,hd00_rep w G,Slv.nil _ _,⟨_,_,_,_,rfl,Slv.nil _ _,Slv.nil _ _,Slv.nil _ _,Slv.nil _ _⟩⟩
theorem one_z:∀ u∈([.slice none 0 0,.slice none 0 0,.int .i64 0,.int .i64 0,.slice none 0 0,.slice none 0 0,.slice none 0 0,.slice none 0 0,.slice none 0 0,.slice none 0 0,.slice none 0 0]:List Value),u.oneCell' = true:=by
 intro u hu
 simp at hu
 rcases hu with rfl | rfl | rfl <;> rfl
def DecD (n:Nat) (s:ByteArray) (w:World) (ex:Ending) (w':World):Prop :=
 Below w.heap.size w w'∧∃ (vs:List Value) (x:Dc n) (E:Int),ex = .returned (.tuple #[.agg (List.toArray vs),.int .i64 E])∧dcP n w' (aB w.heap.size w') vs x∧(∀ u∈vs,u.oneCell' = true) ∧
  (rdErr (dcR n) s≠0→E = rdErr (dcR n) s)∧(rdErr (dcR n) s = 0→∃ y,dcR n ((al s).drop 4) = .ok y (s.size - 4)∧E = chkD y∧(E = 0→x = y))∧(E≠0→x = dcz n)
theorem end_code {α:Type} {p:Rd α} {s:ByteArray} {x:α} {k:Nat} {e:Int} (h:Res p s 4 0 x k e) (h1:pfxB s obl = true):(if k < s.size then errC e 15 else e) = rdErr p s∧(rdErr p s = 0→p ((al s).drop 4) = .ok x (s.size - 4)):=by
 have hs:=pfx_size h1
 have e4:obl.size = 4:=rfl
 have h3:=h.2.2 rfl
 have h0:=h.1
 unfold rdErr errC
 have hA:¬ (s.size < 4∧pfxB obl s = true):=fun q => by have:=q.1; omega
 have hB:¬ pfxB s obl = false:=by rw [h1]; decide
 rw [if_neg hA,if_neg hB]
 cases hq:p ((al s).drop 4) with
 | ok y n =>
  rw [hq] at h3
  simp only at h3 ⊢
  obtain ⟨a,b,c⟩:=h3
  subst a b c
  by_cases hn:4 + n < s.size
  ·simp [hn]
  simp [hn]
  omega
 | err E =>
  rw [hq] at h3
  simp only at h3 ⊢
  obtain ⟨a,b⟩:=h3
  subst a
  exact ⟨by split <;> simp,fun q => absurd q b⟩
theorem decD_err {n:Nat} {s:ByteArray} {w w':World} {E:Int} (h:rdErr (dcR n) s = E) (h0:E≠0) (hb:Below w.heap.size w w'):DecD n s w (.returned (.tuple #[.agg #[.slice none 0 0,.slice none 0 0,.int .i64 0,.int .i64 0,.slice none 0 0,.slice none 0 0,.slice none 0 0,.slice none 0 0,.slice none 0 0,.slice none 0 0,.slice none 0 0],.int .i64 E])) w' :=
 ⟨hb,[.slice none 0 0,.slice none 0 0,.int .i64 0,.int .i64 0,.slice none 0 0,.slice none 0 0,.slice none 0 0,.slice none 0 0,.slice none 0 0,.slice none 0 0,.slice none 0 0],dcz n,E,rfl,dcz_rep n _ _,one_z,fun _ => h.symm,fun q => absurd (h.symm.trans q) h0,fun _ => rfl⟩
theorem size47s:(Tryz.prog.info? 47).map (·.size) = some 4:=by kernel_rfl
theorem Dec38 (n:Nat) (s:ByteArray) (w:World) (hs0:s.size≤10485764) (hn:s.size < n):Calls Tryz.prog 38 #[.string s] w (DecD n s w):=by
 have hs:s.size≤549755813888:=by omega
 have h4:obl.size = 4:=rfl
 obtain ⟨q1,hq1⟩:=gX (pfxB obl s)
 obtain ⟨q2,hq2⟩:=gX (pfxB s obl)
 have C1:Hid (∀ W,Calls Tryz.prog 90 #[.string ⟨#[79,66,76,49]⟩,.string s] W fun e w' => e = .returned (.bool q1)∧W = w'):=qH (fun W => by rw [hq1]; exact pfx90 obl s W)
 have C2:Hid (∀ W,Calls Tryz.prog 90 #[.string s,.string ⟨#[79,66,76,49]⟩] W fun e w' => e = .returned (.bool q2)∧W = w'):=qH (fun W => by rw [hq2]; exact pfx90 s obl W)
 obtain ⟨q0,hq0⟩:=gX ((decide (s.size < 4) && q1))
 have HQ0:=qH hq0
 have HQ1:=qH hq1
 have HQ2:=qH hq2
 have HZ0:Hid ((w.alloc (.cells #[.slice none 0 0,.slice none 0 0,.int .i64 0,.int .i64 0,.slice none 0 0,.slice none 0 0,.slice none 0 0,.slice none 0 0,.slice none 0 0,.slice none 0 0,.slice none 0 0] 49)).heap[w.heap.size]? = some (.cells #[.slice none 0 0,.slice none 0 0,.int .i64 0,.int .i64 0,.slice none 0 0,.slice none 0 0,.slice none 0 0,.slice none 0 0,.slice none 0 0,.slice none 0 0,.slice none 0 0] 49 (0,0))):=qH (heap_alloc_new w _)
 have HB0:Hid (Below w.heap.size w (w.alloc (.cells #[.slice none 0 0,.slice none 0 0,.int .i64 0,.int .i64 0,.slice none 0 0,.slice none 0 0,.slice none 0 0,.slice none 0 0,.slice none 0 0,.slice none 0 0,.slice none 0 0] 49))):=qH (ag w _)
 clear hq0 hq1 hq2
 go_enter Tryz.func38,Tryz.ntmps38
 go_upto_region 1 with fail
 go_cut [8] from 9 to 15 (fun bv wc => bv = .bool q0∧(w.alloc (.cells #[.slice none 0 0,.slice none 0 0,.int .i64 0,.int .i64 0,.slice none 0 0,.slice none 0 0,.slice none 0 0,.slice none 0 0,.slice none 0 0,.slice none 0 0,.slice none 0 0] 49)) = wc)
 case first =>
  by_cases p1:s.size < 4
  ·have f1:decide ((s.size:Int) < 4) = true:=by simp; omega
   have f2:decide (s.size < 4) = true:=by simpa using p1
   have dF:=qH (show q0 = q1 by rw [HQ0.out,f2]; rfl)
   clear p1
   go_wp2_with fail
   refine (C1.out _).mono ?_
   rintro e w1 ⟨rfl,rfl⟩
   go_wp2_with fail
   go_meet
   exact ⟨by rw [dF.out],rfl⟩
  have f1:decide ((s.size:Int) < 4) = false:=by simp; omega
  have f2:decide (s.size < 4) = false:=by simpa using p1
  have dF:=qH (show q0 = false by rw [HQ0.out,f2]; rfl)
  clear p1
  go_wp2_with fail
  go_meet
  exact ⟨by rw [dF.out],rfl⟩
 obtain ⟨rfl,rfl⟩:=hcut
 cases q0
 case true =>
  have HE:=qH (show rdErr (dcR n) s = 34 by
   have:=HQ0.out
   simp at this
   unfold rdErr
   rw [if_pos ⟨this.1,by rw [<- HQ1.out,this.2]⟩])
  clear C1 C2 HQ0 HQ1 HQ2
  go_upto_region 2 with fail
  refine ac (by rfl) ?_
  simp only [List.map]
  refine sq1 (.agg #[.slice none 0 0,.slice none 0 0,.int .i64 0,.int .i64 0,.slice none 0 0,.slice none 0 0,.slice none 0 0,.slice none 0 0,.slice none 0 0,.slice none 0 0,.slice none 0 0]) ?_
  refine as_ 49 _ _ rfl rfl (w.heap.size) 49 _ [.slice none 0 0,.slice none 0 0,.int .i64 0,.int .i64 0,.slice none 0 0,.slice none 0 0,.slice none 0 0,.slice none 0 0,.slice none 0 0,.slice none 0 0,.slice none 0 0] rfl rfl HZ0.out bz one_z rfl ?_
  intro wz hz2 hgz
  refine ⟨trivial,?_⟩
  refine sq1i 34 ?_
  have HBz:=qH (bO HB0.out.size hgz (Nat.le_refl _) |> HB0.out.trans)
  clear hgz
  refine ad ?_
  go_wp2_with fail
  refine bodyPost_ret (v:=.tuple #[.agg #[.slice none 0 0,.slice none 0 0,.int .i64 0,.int .i64 0,.slice none 0 0,.slice none 0 0,.slice none 0 0,.slice none 0 0,.slice none 0 0,.slice none 0 0,.slice none 0 0],.int .i64 34]) (bw rfl _ _ (w.heap.size) 49 #[.slice none 0 0,.slice none 0 0,.int .i64 0,.int .i64 0,.slice none 0 0,.slice none 0 0,.slice none 0 0,.slice none 0 0,.slice none 0 0,.slice none 0 0,.slice none 0 0] (0,0) _ _ rfl rfl hz2 Tryz.underlying49 rfl bz) rfl ?_
  exact decD_err HE.out (by decide) HBz.out
 have HN0:=qH (show ¬ (s.size < 4∧pfxB obl s = true) from fun e => by have:=HQ0.out; rw [HQ1.out] at this; simp [e.1,e.2] at this)
 clear HQ0 HQ1 C1
 go_wp2_with fail
 refine (C2.out _).mono ?_
 rintro e w1 ⟨rfl,rfl⟩
 clear C2
 cases q2
 case false =>
  have HE:=qH (show rdErr (dcR n) s = 35 by unfold rdErr; rw [if_neg HN0.out,if_pos HQ2.out.symm])
  clear HQ2 HN0
  go_upto_region 4 with fail
  refine ac (by rfl) ?_
  simp only [List.map]
  refine sq1 (.agg #[.slice none 0 0,.slice none 0 0,.int .i64 0,.int .i64 0,.slice none 0 0,.slice none 0 0,.slice none 0 0,.slice none 0 0,.slice none 0 0,.slice none 0 0,.slice none 0 0]) ?_
  refine as_ 49 _ _ rfl rfl (w.heap.size) 49 _ [.slice none 0 0,.slice none 0 0,.int .i64 0,.int .i64 0,.slice none 0 0,.slice none 0 0,.slice none 0 0,.slice none 0 0,.slice none 0 0,.slice none 0 0,.slice none 0 0] rfl rfl HZ0.out bz one_z rfl ?_
  intro wz hz2 hgz
  refine ⟨trivial,?_⟩
  refine sq1i 35 ?_
  have HBz:=qH (bO HB0.out.size hgz (Nat.le_refl _) |> HB0.out.trans)
  clear hgz
  refine ad ?_
  go_wp2_with fail
  refine bodyPost_ret (v:=.tuple #[.agg #[.slice none 0 0,.slice none 0 0,.int .i64 0,.int .i64 0,.slice none 0 0,.slice none 0 0,.slice none 0 0,.slice none 0 0,.slice none 0 0,.slice none 0 0,.slice none 0 0],.int .i64 35]) (bw rfl _ _ (w.heap.size) 49 #[.slice none 0 0,.slice none 0 0,.int .i64 0,.int .i64 0,.slice none 0 0,.slice none 0 0,.slice none 0 0,.slice none 0 0,.slice none 0 0,.slice none 0 0,.slice none 0 0] (0,0) _ _ rfl rfl hz2 Tryz.underlying49 rfl bz) rfl ?_
  exact decD_err HE.out (by decide) HBz.out
 have hp4:4≤s.size:=by have:=pfx_size HQ2.out.symm; omega
 have HZ:(((w.alloc (.cells #[.slice none 0 0,.slice none 0 0,.int .i64 0,.int .i64 0,.slice none 0 0,.slice none 0 0,.slice none 0 0,.slice none 0 0,.slice none 0 0,.slice none 0 0,.slice none 0 0] 49)).alloc (.cells #[.string s,.int .i64 4,.int .i64 0] 99)).alloc (.cells #[.slice none 0 0,.slice none 0 0,.int .i64 0,.int .i64 0,.slice none 0 0,.slice none 0 0,.slice none 0 0,.slice none 0 0,.slice none 0 0,.slice none 0 0,.slice none 0 0] 49)).heap[w.heap.size]? = some (.cells #[.slice none 0 0,.slice none 0 0,.int .i64 0,.int .i64 0,.slice none 0 0,.slice none 0 0,.slice none 0 0,.slice none 0 0,.slice none 0 0,.slice none 0 0,.slice none 0 0] 49 (0,0)):=(Below.heap_alloc _ _ _ (by simp; omega)).trans ((Below.heap_alloc _ _ _ (by simp)).trans (heap_alloc_new w _))
 obtain ⟨k0,e0,hk0,he0,I0⟩:∃ (k0:Nat) (e0:Int),k0 = 4∧e0 = 0∧InvN 49 99 (w.heap.size + 1) (w.heap.size + 2) s w (w.heap.size + 3) k0 e0 #[.slice none 0 0,.slice none 0 0,.int .i64 0,.int .i64 0,.slice none 0 0,.slice none 0 0,.slice none 0 0,.slice none 0 0,.slice none 0 0,.slice none 0 0,.slice none 0 0] (((w.alloc (.cells #[.slice none 0 0,.slice none 0 0,.int .i64 0,.int .i64 0,.slice none 0 0,.slice none 0 0,.slice none 0 0,.slice none 0 0,.slice none 0 0,.slice none 0 0,.slice none 0 0] 49)).alloc (.cells #[.string s,.int .i64 4,.int .i64 0] 99)).alloc (.cells #[.slice none 0 0,.slice none 0 0,.int .i64 0,.int .i64 0,.slice none 0 0,.slice none 0 0,.slice none 0 0,.slice none 0 0,.slice none 0 0,.slice none 0 0,.slice none 0 0] 49)):=⟨4,0,rfl,rfl,⟨(Below.heap_alloc _ _ _ (by simp)).trans (ah _ _ (by simp)),hp4,ah _ _ (by simp),ap (ap (ap (av w (some (w.heap.size + 1))) _) _) _,by omega,by omega,by omega,by omega,by simp⟩⟩
 have D0:e0 = 0→s.size - k0 < n:=fun _ => by omega
 clear HZ0 HB0 HN0
 go_upto_region 7 with fail
 obtain ⟨W,hW⟩:=gX ((((w.alloc (.cells #[.slice none 0 0,.slice none 0 0,.int .i64 0,.int .i64 0,.slice none 0 0,.slice none 0 0,.slice none 0 0,.slice none 0 0,.slice none 0 0,.slice none 0 0,.slice none 0 0] 49)).alloc (.cells #[.string s,.int .i64 4,.int .i64 0] 99)).alloc (.cells #[.slice none 0 0,.slice none 0 0,.int .i64 0,.int .i64 0,.slice none 0 0,.slice none 0 0,.slice none 0 0,.slice none 0 0,.slice none 0 0,.slice none 0 0,.slice none 0 0] 49)))
 rw [<- hW] at HZ I0 ⊢
 clear hW
 refine ac (by rfl) ?_
 simp only [List.map]
 refine sq1p (w.heap.size + 1) 0 ?_
 refine af 65 #[.pointer (some ⟨w.heap.size + 1,0,none⟩)] (by go_simp) ?_
 refine Calls.mono (rd_items s hs n (w.heap.size + 1) k0 e0 _ I0.rdr I0.le D0) ?_
 rintro e w1 ⟨v1,l1,k1,e1,rfl,F1,h1,hg,hs1⟩
 replace HZ:=(hg.block _ (ae HZ) (fun q => by injection q with q; omega)).trans HZ
 have I1:=I0.call h1 hs1.1 hg
 have aw1:=I0.aw
 replace F1:=Slv.since (aV n) (a0:=w.heap.size + 3) F1 aw1
 clear I0 h1 hg
 have D1:=aN D0 hs1
 clear D0
 refine ⟨_,rfl,trivial,?_⟩
 simp only [Act.put,PutA,PutZ,PutS]
 refine sq1p (w.heap.size + 1) 0 ?_
 refine af 91 #[.pointer (some ⟨w.heap.size + 1,0,none⟩)] (by go_simp) ?_
 refine Calls.mono (rd91 (w.heap.size + 1) k1 s e1 _ I1.rdr I1.le hs) ?_
 rintro e w2 ⟨vs2,x2,k2,e2,rfl,hl2,o2,F2,h2,hg,hs2⟩
 replace HZ:=(hg.block _ (ae HZ) (fun q => by injection q with q; omega)).trans HZ
 have I2:=I1.call h2 hs2.1 hg
 have aw2:=I1.aw
 replace F2:=Stb.since ay (a0:=w.heap.size + 3) F2 aw2
 replace F1:=F1.grow (aV n) hg (by omega)
 clear I1 h2 hg
 have D2:=aN D1 hs2
 clear D1
 refine ⟨_,rfl,trivial,?_⟩
 simp only [Act.put,PutA,PutZ,PutS]
 refine sq1p (w.heap.size + 1) 0 ?_
 refine af 92 #[.pointer (some ⟨w.heap.size + 1,0,none⟩)] (by go_simp) ?_
 refine Calls.mono (rd92 (w.heap.size + 1) k2 s e2 _ I2.rdr I2.le hs) ?_
 rintro e w3 ⟨v3,l3,k3,e3,rfl,F3,h3,hg,hs3⟩
 replace HZ:=(hg.block _ (ae HZ) (fun q => by injection q with q; omega)).trans HZ
 have I3:=I2.call h3 hs3.1 hg
 have aw3:=I2.aw
 replace F3:=Slv.since bg (a0:=w.heap.size + 3) F3 aw3
 replace F1:=F1.grow (aV n) hg (by omega)
 replace F2:=Stb.grow ay hg (by omega) F2
 clear I2 h3 hg
 have D3:=aN D2 hs3
 clear D2
 refine ⟨_,rfl,trivial,?_⟩
 simp only [Act.put,PutA,PutZ,PutS]
 refine sq1p (w.heap.size + 1) 0 ?_
 refine af 83 #[.pointer (some ⟨w.heap.size + 1,0,none⟩)] (by go_simp) ?_
 refine Calls.mono (rd83 (w.heap.size + 1) k3 s e3 _ I3.rdr I3.le hs) ?_
 rintro e w4 ⟨vs4,x4,k4,e4,rfl,hl4,o4,F4,h4,hg,hs4⟩
 replace HZ:=(hg.block _ (ae HZ) (fun q => by injection q with q; omega)).trans HZ
 have I4:=I3.call h4 hs4.1 hg
 have aw4:=I3.aw
 replace F4:=Stb.since stb_stg (a0:=w.heap.size + 3) F4 aw4
 replace F1:=F1.grow (aV n) hg (by omega)
 replace F2:=Stb.grow ay hg (by omega) F2
 replace F3:=F3.grow bg hg (by omega)
 clear I3 h4 hg
 have D4:=aN D3 hs4
 clear D3
 refine ⟨_,rfl,trivial,?_⟩
 simp only [Act.put,PutA,PutZ,PutS]
 obtain ⟨A1,c1,hv1,_,_⟩:=F1.shape
 subst hv1
 obtain ⟨A3,c3,hv3,_,_⟩:=F3.shape
 subst hv3
 obtain ⟨n1,hn1⟩:=gX (l1.length)
 obtain ⟨n3,hn3⟩:=gX (l3.length)
 rw [<- hn1] at F1 ⊢
 rw [<- hn3] at F3 ⊢
 obtain ⟨u20,u21,u22,u23,u24,rfl⟩:∃ a b c d e,vs2 = [a,b,c,d,e]:=by
  match vs2,hl2 with
  | [a,b,c,d,e],_ => exact ⟨a,b,c,d,e,rfl⟩
 obtain ⟨u40,u41,u42,u43,rfl⟩:∃ a b c d,vs4 = [a,b,c,d]:=by
  match vs4,hl4 with
  | [a,b,c,d],_ => exact ⟨a,b,c,d,rfl⟩
 clear hn1 hn3 hl2 hl4 aw1 aw2 aw3 aw4
 refine sq1p (w.heap.size + 2) 0 ?_
 refine aj 33 _ _ rfl rfl (w.heap.size + 2) 0 49 _ #[.slice A1 n1 c1,.slice none 0 0,.int .i64 0,.int .i64 0,.slice none 0 0,.slice none 0 0,.slice none 0 0,.slice none 0 0,.slice none 0 0,.slice none 0 0,.slice none 0 0] [.slice A1 n1 c1] rfl rfl I4.blk sz33 (one1 rfl) rfl (by simp) ?_
 intro w' hb hg
 replace HZ:=(hg.block _ (ae HZ) (fun q => by injection q with q; omega)).trans HZ
 replace I4:=I4.store hb hg
 replace F1:=F1.grow (aV n) hg (by omega)
 replace F2:=Stb.grow ay hg (by omega) F2
 replace F3:=F3.grow bg hg (by omega)
 replace F4:=Stb.grow stb_stg hg (by omega) F4
 clear hb hg
 refine ⟨trivial,?_⟩
 refine sq1p (w.heap.size + 2) 1 ?_
 refine aj 40 _ _ rfl rfl (w.heap.size + 2) 1 49 _ #[.slice A1 n1 c1,u20,u21,u22,u23,u24,.slice none 0 0,.slice none 0 0,.slice none 0 0,.slice none 0 0,.slice none 0 0] [u20,u21,u22,u23,u24] rfl rfl I4.blk sz40 o2 rfl (by simp) ?_
 intro w' hb hg
 replace HZ:=(hg.block _ (ae HZ) (fun q => by injection q with q; omega)).trans HZ
 replace I4:=I4.store hb hg
 replace F1:=F1.grow (aV n) hg (by omega)
 replace F2:=Stb.grow ay hg (by omega) F2
 replace F3:=F3.grow bg hg (by omega)
 replace F4:=Stb.grow stb_stg hg (by omega) F4
 clear hb hg
 refine ⟨trivial,?_⟩
 refine sq1p (w.heap.size + 2) 6 ?_
 refine aj 41 _ _ rfl rfl (w.heap.size + 2) 6 49 _ #[.slice A1 n1 c1,u20,u21,u22,u23,u24,.slice A3 n3 c3,.slice none 0 0,.slice none 0 0,.slice none 0 0,.slice none 0 0] [.slice A3 n3 c3] rfl rfl I4.blk sz41 (one1 rfl) rfl (by simp) ?_
 intro w' hb hg
 replace HZ:=(hg.block _ (ae HZ) (fun q => by injection q with q; omega)).trans HZ
 replace I4:=I4.store hb hg
 replace F1:=F1.grow (aV n) hg (by omega)
 replace F2:=Stb.grow ay hg (by omega) F2
 replace F3:=F3.grow bg hg (by omega)
 replace F4:=Stb.grow stb_stg hg (by omega) F4
 clear hb hg
 refine ⟨trivial,?_⟩
 refine sq1p (w.heap.size + 2) 7 ?_
 refine aj 47 _ _ rfl rfl (w.heap.size + 2) 7 49 _ #[.slice A1 n1 c1,u20,u21,u22,u23,u24,.slice A3 n3 c3,u40,u41,u42,u43] [u40,u41,u42,u43] rfl rfl I4.blk size47s o4 rfl (by simp) ?_
 intro w' hb hg
 replace HZ:=(hg.block _ (ae HZ) (fun q => by injection q with q; omega)).trans HZ
 replace I4:=I4.store hb hg
 replace F1:=F1.grow (aV n) hg (by omega)
 replace F2:=Stb.grow ay hg (by omega) F2
 replace F3:=F3.grow bg hg (by omega)
 replace F4:=Stb.grow stb_stg hg (by omega) F4
 clear hb hg
 refine ⟨trivial,?_⟩
 refine ad ?_
 have FR:dcP n _ (aB (w.heap.size + 3) _) [.slice A1 n1 c1,u20,u21,u22,u23,u24,.slice A3 n3 c3,u40,u41,u42,u43] (l1,x2,l3,x4):=⟨_,_,_,_,_,_,_,_,_,_,_,rfl,F1,F2,F3,by obtain ⟨a,b,c,d,q,r⟩:=F4; exact ⟨a,b,c,d,q,r⟩⟩
 have hone:∀ u∈[.slice A1 n1 c1,u20,u21,u22,u23,u24,.slice A3 n3 c3,u40,u41,u42,u43],u.oneCell' = true:=by
  intro u hu
  simp only [List.mem_cons,List.not_mem_nil,or_false] at hu
  rcases hu with rfl | h | h | h | h | h | rfl | h | h | h | h
  ·rfl
  ·exact o2 u (by simp [h])
  ·exact o2 u (by simp [h])
  ·exact o2 u (by simp [h])
  ·exact o2 u (by simp [h])
  ·exact o2 u (by simp [h])
  ·rfl
  ·exact o4 u (by simp [h])
  ·exact o4 u (by simp [h])
  ·exact o4 u (by simp [h])
  exact o4 u (by simp [h])
 have hsA:Res (dcR n) s k0 e0 (l1,x2,l3,x4) k4 e4:=hs1.seq (hs2.seq (hs3.seq hs4))
 rw [hk0,he0] at hsA
 obtain ⟨hc1,hc2⟩:=end_code hsA HQ2.out.symm
 obtain ⟨x,hx⟩:∃ x:Dc n,x = (l1,x2,l3,x4):=⟨_,rfl⟩
 rw [<- hx] at FR hc2
 clear hs1 hs2 hs3 hs4 hsA F1 F2 F3 F4 D4 HQ2 hx o2 o4
 go_upto_region 8 with fail
 refine ac (by rfl) ?_
 simp only [List.map]
 refine sq1p (w.heap.size + 1) 0 ?_
 refine af 66 #[.pointer (some ⟨w.heap.size + 1,0,none⟩)] (by go_simp) ?_
 refine Calls.mono (end66 (w.heap.size + 1) k4 s e4 _ I4.rdr) ?_
 rintro e w5 ⟨rfl,hg⟩
 rw [hc1]
 clear hc1
 replace HZ:=(hg.block _ (ae HZ) (fun q => by injection q with q; omega)).trans HZ
 have hb:=(hg.block _ (ae I4.blk) (fun q => by injection q with q; omega)).trans I4.blk
 have HG:=qH (an I4.grown hg)
 replace FR:=Stb.grow (stb_dc n) hg (by omega) FR
 have haw:=Nat.le_trans I4.aw hg.size
 clear I4 hg hk0 he0
 obtain ⟨E,hE⟩:=gX (rdErr (dcR n) s)
 rw [<- hE] at hc2 ⊢
 refine ⟨_,rfl,trivial,?_⟩
 simp only [Act.put,PutA,PutZ,PutS]
 refine sq1i E ?_
 refine ad ?_
 have hc3:=qH hc2
 have HE:=qH hE
 have HON:=qH hone
 have HFR:=qH FR
 clear hc2 hE hone FR
 rcases Int.decEq E 0 with he | he
 ·have d0:(E != 0) = true:=by simpa using he
  have d1:(E == 0) = false:=by simpa using he
  have HNE:=qH he
  clear hb he
  go_upto_region 10 with fail
  refine ac (by rfl) ?_
  simp only [List.map]
  refine sq1 (.agg #[.slice none 0 0,.slice none 0 0,.int .i64 0,.int .i64 0,.slice none 0 0,.slice none 0 0,.slice none 0 0,.slice none 0 0,.slice none 0 0,.slice none 0 0,.slice none 0 0]) ?_
  refine sq1i E ?_
  refine as_ 49 _ _ rfl rfl (w.heap.size) 49 _ [.slice none 0 0,.slice none 0 0,.int .i64 0,.int .i64 0,.slice none 0 0,.slice none 0 0,.slice none 0 0,.slice none 0 0,.slice none 0 0,.slice none 0 0,.slice none 0 0] rfl rfl HZ bz one_z rfl ?_
  intro wz hz2 hgz
  refine ⟨trivial,?_⟩
  refine sq1i E ?_
  have HBz:=qH (show Below w.heap.size w wz from ⟨hgz.os.trans HG.out.os,hgz.tape.trans HG.out.tape,hgz.output.trans HG.out.output,Nat.le_trans HG.out.size hgz.size,fun i hi => (hgz.block i (Nat.lt_of_lt_of_le hi HG.out.size) (fun q => by injection q with q; omega)).trans (HG.out.block i hi (fun q => by injection q with q; omega))⟩)
  clear hgz
  refine ad ?_
  go_wp2_with fail
  refine bodyPost_ret (v:=.tuple #[.agg #[.slice none 0 0,.slice none 0 0,.int .i64 0,.int .i64 0,.slice none 0 0,.slice none 0 0,.slice none 0 0,.slice none 0 0,.slice none 0 0,.slice none 0 0,.slice none 0 0],.int .i64 E]) (bw rfl _ _ (w.heap.size) 49 #[.slice none 0 0,.slice none 0 0,.int .i64 0,.int .i64 0,.slice none 0 0,.slice none 0 0,.slice none 0 0,.slice none 0 0,.slice none 0 0,.slice none 0 0,.slice none 0 0] (0,0) _ _ rfl rfl hz2 Tryz.underlying49 rfl bz) rfl ?_
  exact decD_err HE.out.symm HNE.out HBz.out
 subst he
 replace hc3:=qH (hc3.out rfl)
 have hlen:(dcE n x).length≤1048576000:=by
  obtain ⟨_,h2,_⟩:=(fit_dcD n).read _ _ _ (fun b hb => bytesN_lt s b (List.mem_of_mem_drop hb)) hc3.out
  have h3:=congrArg List.length h2
  rw [List.length_take,List.length_drop,aE] at h3
  omega
 have C:=qH (check_doc n _ w5 _ x HFR.out (fun b hb => hb.2) hlen)
 obtain ⟨K,hK⟩:=gX (chkD x)
 rw [<- hK] at C
 have HK:=qH hK
 have Hb:=qH hb
 clear hlen hK hb
 go_upto_region 11 with fail
 refine ac (by rfl) ?_
 simp only [List.map]
 refine ar 49 _ rfl (w.heap.size + 2) 49 #[.slice A1 n1 c1,u20,u21,u22,u23,u24,.slice A3 n3 c3,u40,u41,u42,u43] _ rfl Hb.out Tryz.underlying49 rfl bz trivial ?_
 simp only [Act.put,PutA,PutZ,PutS]
 refine af 20 #[.agg #[.slice A1 n1 c1,u20,u21,u22,u23,u24,.slice A3 n3 c3,u40,u41,u42,u43]] (by go_simp) ?_
 refine C.out.mono ?_
 rintro e w6 ⟨rfl,hb6⟩
 have HZ6:=ai HZ hb6
 have Hb6:=qH (ai Hb.out hb6)
 have HFR6:=qH (Rp.below (stb_dc n) HFR.out (fun b hb => hb.2) hb6)
 have HBB:Hid (w5.heap.size≤w6.heap.size∧w6.os = w5.os∧w6.tape = w5.tape∧w6.output = w5.output∧∀ i,i < w5.heap.size→w6.heap[i]? = w5.heap[i]?):=qH ⟨hb6.size,hb6.os,hb6.tape,hb6.output,hb6.block⟩
 clear C hb6 Hb HFR HZ
 refine ⟨_,rfl,trivial,?_⟩
 simp only [Act.put,PutA,PutZ,PutS]
 refine sq1i K ?_
 refine ad ?_
 rcases Int.decEq K 0 with hk | hk
 ·have d0:(K != 0) = true:=by simpa using hk
  have d1:(K == 0) = false:=by simpa using hk
  have HKN:=qH hk
  clear hk
  go_upto_region 13 with fail
  refine ac (by rfl) ?_
  simp only [List.map]
  refine sq1 (.agg #[.slice none 0 0,.slice none 0 0,.int .i64 0,.int .i64 0,.slice none 0 0,.slice none 0 0,.slice none 0 0,.slice none 0 0,.slice none 0 0,.slice none 0 0,.slice none 0 0]) ?_
  refine sq1i K ?_
  refine as_ 49 _ _ rfl rfl (w.heap.size) 49 _ [.slice none 0 0,.slice none 0 0,.int .i64 0,.int .i64 0,.slice none 0 0,.slice none 0 0,.slice none 0 0,.slice none 0 0,.slice none 0 0,.slice none 0 0,.slice none 0 0] rfl rfl HZ6 bz one_z rfl ?_
  intro wz hz2 hgz
  refine ⟨trivial,?_⟩
  refine sq1i K ?_
  have HBz:=qH (show Below w.heap.size w wz from ⟨hgz.os.trans (HBB.out.2.1.trans HG.out.os),hgz.tape.trans (HBB.out.2.2.1.trans HG.out.tape),hgz.output.trans (HBB.out.2.2.2.1.trans HG.out.output),Nat.le_trans HG.out.size (Nat.le_trans HBB.out.1 hgz.size),fun i hi => (hgz.block i (Nat.lt_of_lt_of_le hi (Nat.le_trans HG.out.size HBB.out.1)) (fun q => by injection q with q; omega)).trans ((HBB.out.2.2.2.2 i (Nat.lt_of_lt_of_le hi HG.out.size)).trans (HG.out.block i hi (fun q => by injection q with q; omega)))⟩)
  clear hgz
  refine ad ?_
  go_wp2_with fail
  refine bodyPost_ret (v:=.tuple #[.agg #[.slice none 0 0,.slice none 0 0,.int .i64 0,.int .i64 0,.slice none 0 0,.slice none 0 0,.slice none 0 0,.slice none 0 0,.slice none 0 0,.slice none 0 0,.slice none 0 0],.int .i64 K]) (bw rfl _ _ (w.heap.size) 49 #[.slice none 0 0,.slice none 0 0,.int .i64 0,.int .i64 0,.slice none 0 0,.slice none 0 0,.slice none 0 0,.slice none 0 0,.slice none 0 0,.slice none 0 0,.slice none 0 0] (0,0) _ _ rfl rfl hz2 Tryz.underlying49 rfl bz) rfl ?_
  exact ⟨HBz.out,[.slice none 0 0,.slice none 0 0,.int .i64 0,.int .i64 0,.slice none 0 0,.slice none 0 0,.slice none 0 0,.slice none 0 0,.slice none 0 0,.slice none 0 0,.slice none 0 0],dcz n,K,rfl,dcz_rep n _ _,one_z,fun q => absurd HE.out.symm q,fun _ => ⟨x,hc3.out,HK.out,fun q => absurd q HKN.out⟩,fun _ => rfl⟩
 subst hk
 go_upto_region 14 with fail
 refine ac (by rfl) ?_
 simp only [List.map]
 refine ar 49 _ rfl (w.heap.size + 2) 49 #[.slice A1 n1 c1,u20,u21,u22,u23,u24,.slice A3 n3 c3,u40,u41,u42,u43] _ rfl Hb6.out Tryz.underlying49 rfl bz trivial ?_
 simp only [Act.put,PutA,PutZ,PutS]
 refine as_ 49 _ _ rfl rfl (w.heap.size) 49 _ [.slice A1 n1 c1,u20,u21,u22,u23,u24,.slice A3 n3 c3,u40,u41,u42,u43] rfl rfl HZ6 bz HON.out rfl ?_
 intro wz hz2 hgz
 refine ⟨trivial,?_⟩
 have hR2:=qH (Stb.since (a0:=w.heap.size) (stb_dc n) (Stb.grow (stb_dc n) (a0:=w.heap.size + 3) hgz (by omega) (stb_dc n _ _ _ _ _ _ (fun b hb => ⟨hb.1,Nat.lt_of_lt_of_le hb.2 HBB.out.1⟩) (fun _ _ _ => rfl) HFR6.out)) (by omega))
 refine sq1i 0 ?_
 have HBz:=qH (show Below w.heap.size w wz from ⟨hgz.os.trans (HBB.out.2.1.trans HG.out.os),hgz.tape.trans (HBB.out.2.2.1.trans HG.out.tape),hgz.output.trans (HBB.out.2.2.2.1.trans HG.out.output),Nat.le_trans HG.out.size (Nat.le_trans HBB.out.1 hgz.size),fun i hi => (hgz.block i (Nat.lt_of_lt_of_le hi (Nat.le_trans HG.out.size HBB.out.1)) (fun q => by injection q with q; omega)).trans ((HBB.out.2.2.2.2 i (Nat.lt_of_lt_of_le hi HG.out.size)).trans (HG.out.block i hi (fun q => by injection q with q; omega)))⟩)
 clear hgz
 refine ad ?_
 go_wp2_with fail
 refine bodyPost_ret (v:=.tuple #[.agg #[.slice A1 n1 c1,u20,u21,u22,u23,u24,.slice A3 n3 c3,u40,u41,u42,u43],.int .i64 0]) (bw rfl _ _ (w.heap.size) 49 #[.slice A1 n1 c1,u20,u21,u22,u23,u24,.slice A3 n3 c3,u40,u41,u42,u43] (0,0) _ _ rfl rfl hz2 Tryz.underlying49 rfl bz) rfl ?_
 exact ⟨HBz.out,[.slice A1 n1 c1,u20,u21,u22,u23,u24,.slice A3 n3 c3,u40,u41,u42,u43],x,0,rfl,hR2.out,HON.out,fun q => absurd HE.out.symm q,fun _ => ⟨x,hc3.out,HK.out,fun _ => rfl⟩,fun q => absurd rfl q⟩
end Go.Proofs.YtmhhcfceikcfbaaGreat
namespace Go.Proofs.YtmhhcfceikcfbaaGreat
open Go.RowKit
set_option maxRecDepth 100000
set_option maxHeartbeats 4000000
theorem doc_bytes {n:Nat} (x:Dc n):al (mkB (bE++dcE n x)) = bE++dcE n x∧(mkB (bE++dcE n x)).size = 4 + (dcE n x).length:=by
 refine ⟨bytesN_mkB (fun b hb => ?_),by rw [mkB_size,List.length_append]; rfl⟩
 rcases List.mem_append.1 hb with q | q
 ·simp [bE] at q
  omega
 exact byt_dc n x b q
end Go.Proofs.YtmhhcfceikcfbaaGreat
namespace Go.Proofs.YtmhhcfceikcfbaaGreat
open Go.RowKit
set_option maxRecDepth 100000
set_option maxHeartbeats 4000000
theorem chk0:chkD dc0 = 0:=by kernel_rfl
theorem k_docb (w:World):Calls Tryz.prog 21 #[.agg #[.slice none 0 0,.slice none 0 0,.int .i64 0,.int .i64 0,.slice none 0 0,.slice none 0 0,.slice none 0 0,.slice none 0 0,.slice none 0 0,.slice none 0 0,.slice none 0 0]] w fun e w' => e = .returned (.tuple #[.string ⟨#[79,66,76,49,0,0,0,0,0,0,0,0,0,0,0]⟩,.int .i64 0])∧Below w.heap.size w w':=by
 have h:=encode21 0 (fun _ => False) w _ dc0 (dc0_rep w) (fun _ h => h.elim) (by
  have h:=congrArg List.length dc0_enc
  have h2:bE.length = 4:=rfl
  simp only [List.length_append,List.length_cons,List.length_nil] at h
  omega)
 unfold EncR at h
 rw [chk0,if_pos rfl,dc0_enc] at h
 exact h
theorem known15b (w:World):Calls Tryz.prog 15 #[] w (TrueC w):=by
 go_enter Tryz.func15,Tryz.ntmps15
 go_wp2_with fail
 refine (k_docb w).mono ?_
 rintro e w1 ⟨rfl,hb1⟩
 have HB1:=qH hb1
 clear hb1
 go_wp2_with fail
 refine (k_rd w1).mono ?_
 rintro e w2 ⟨rfl,hb2⟩
 have HB2:=qH (HB1.out.trans (hb2.mono HB1.out.size))
 clear hb2 HB1
 go_wp2_with fail
 refine (k_n1 w2).mono ?_
 rintro e w3 ⟨rfl,hb3⟩
 have HB3:=qH (HB2.out.trans (hb3.mono HB2.out.size))
 clear hb3 HB2
 go_wp2_with fail
 refine (k_n2 w3).mono ?_
 rintro e w4 ⟨rfl,hb4⟩
 have HB4:=qH (HB3.out.trans (hb4.mono HB3.out.size))
 clear hb4 HB3
 go_wp2_with fail
 refine (k_it w4).mono ?_
 rintro e w5 ⟨rfl,hb5⟩
 have HB5:=qH (HB4.out.trans (hb5.mono HB4.out.size))
 clear hb5 HB4
 go_wp2_with fail
 go_ret
 exact ⟨rfl,HB5.out⟩
end Go.Proofs.YtmhhcfceikcfbaaGreat
