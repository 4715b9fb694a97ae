/- Walks: equality of documents. -/
import Derived.BigQuiet
import Derived.Test.YtmhhcfceikcfbaaGreatDeD2
import Derived.Test.YtmhhcfceikcfbaaGreatDeQ2
namespace Go.Proofs.YtmhhcfceikcfbaaGreat
open Go.RowKit
set_option maxRecDepth 100000
set_option maxHeartbeats 4000000
theorem esz47:(Tryz.prog.info? 47).map (·.size) = some 4:=by kernel_rfl
theorem eq22 (n:Nat):EqEl 22 (dcP n) 11:=by
 intro G w vs us x y hx hy _ _ hG
 obtain ⟨f0,h0,h1,h2,h3,h4,r0,s0,s1,s2,s3,rfl,A0,A1,A2,A3⟩:=hx
 obtain ⟨f9,j0,j1,j2,j3,j4,r9,t0,t1,t2,t3,rfl,B0,B1,B2,B3⟩:=hy
 obtain ⟨x0,x1,x2,xs,xl,xc,xv⟩:=x
 obtain ⟨y0,y1,y2,ys,yl,yc,yv⟩:=y
 obtain ⟨_,_,_,_,he,P0,P1,P2,P3⟩:=A3
 cases he
 obtain ⟨_,_,_,_,he,Q0,Q1,Q2,Q3⟩:=B3
 cases he
 have hone:(∀ u∈[s0,s1,s2,s3],u.oneCell' = true)∧∀ u∈[t0,t1,t2,t3],u.oneCell' = true:=by
  obtain ⟨_,_,rfl,_,_⟩:=P0.shape
  obtain ⟨_,_,rfl,_,_⟩:=P1.shape
  obtain ⟨_,_,rfl,_,_⟩:=P2.shape
  obtain ⟨_,_,rfl,_,_⟩:=P3.shape
  obtain ⟨_,_,rfl,_,_⟩:=Q0.shape
  obtain ⟨_,_,rfl,_,_⟩:=Q1.shape
  obtain ⟨_,_,rfl,_,_⟩:=Q2.shape
  obtain ⟨_,_,rfl,_,_⟩:=Q3.shape
  constructor <;> intro u hu <;> simp at hu <;> rcases hu with rfl | rfl | rfl | rfl <;> rfl
 have HONE:=qH hone
 have F0:=qH A0
 have F1:=qH A1
 have F2:=qH A2
 have F3:=qH P0
 have F4:=qH P1
 have F5:=qH P2
 have F6:=qH P3
 have G0:=qH B0
 have G1:=qH B1
 have G2:=qH B2
 have G3:=qH Q0
 have G4:=qH Q1
 have G5:=qH Q2
 have G6:=qH Q3
 have HG:=qH hG
 clear A0 A1 A2 P0 P1 P2 P3 B0 B1 B2 Q0 Q1 Q2 Q3 hG hone
 obtain ⟨N,hN⟩:=gX (w.heap.size)
 obtain ⟨W,hW⟩:=gX (((w.alloc (.cells #[f0,h0,h1,h2,h3,h4,r0,s0,s1,s2,s3] 49)).alloc (.cells #[f9,j0,j1,j2,j3,j4,r9,t0,t1,t2,t3] 49)))
 have hb1:W.heap[N]? = some (.cells #[f0,h0,h1,h2,h3,h4,r0,s0,s1,s2,s3] 49 (0,0)):=by rw [hW,hN]; exact (Below.heap_alloc _ _ _ (by simp)).trans (heap_alloc_new _ _)
 have hb2:W.heap[N + 1]? = some (.cells #[f9,j0,j1,j2,j3,j4,r9,t0,t1,t2,t3] 49 (0,0)):=by rw [hW,hN]; exact ah _ _ (by simp)
 have hB:Below w.heap.size w W:=by rw [hW]; exact ((Below.refl _ _).alloc (Nat.le_refl _) _).alloc (by simp) _
 have HW:=qH hW
 have HN:=qH hN
 have HB0:=qH hB
 have K0:=qH hb1
 have J0:=qH hb2
 clear hW hN hB
 go_enter Tryz.func22,Tryz.ntmps22
 go_upto_region 1 with fail
 rw [<- HW.out,<- HN.out]
 clear HW
 go_cut [5,6] from 8 to 11 (fun p5 p6 wc => ∃ g5 g6:Nat,p5 = .pointer (some ⟨g5,0,none⟩)∧p6 = .pointer (some ⟨g6,0,none⟩)∧wc.heap[g5]? = some (.cells #[s0,s1,s2,s3] 47 (0,0))∧wc.heap[g6]? = some (.cells #[t0,t1,t2,t3] 47 (0,0))∧Below W.heap.size W wc)
 case first =>
  have hz1:=ae hb1
  have hz2:=ae hb2
  refine wp_region_tr (S:=fun w' => w'.heap[N]? = some (.cells #[f0,h0,h1,h2,h3,h4,r0,s0,s1,s2,s3] 49 (0,0))∧w'.heap[N + 1]? = some (.cells #[f9,j0,j1,j2,j3,j4,r9,t0,t1,t2,t3] 49 (0,0))) (.ld 0 (.ld 1 (.ld 2 (.ld 3 (.br 4 (.run 5 (.run 6 (.run 7 .done))) 5 (.run 4 (.run 6 (.run 7 .done)))))))) (by kernel_rfl) (by kernel_rfl) ⟨hb1,hb2⟩ ?_
  simp only [Tr.pick,List.getElem?_cons_succ,List.getElem?_cons_zero]
  refine tr1p N 7 ?_
  refine tr1 (.agg #[s0,s1,s2,s3]) ?_ (fun w' hS => by have q0:=aa hS.1 7; have q1:=aa hS.1 8; have q2:=aa hS.1 9; have q3:=aa hS.1 10; go_simp)
  refine tr1p (N + 1) 7 ?_
  refine tr1 (.agg #[t0,t1,t2,t3]) ?_ (fun w' hS => by have q0:=aa hS.2 7; have q1:=aa hS.2 8; have q2:=aa hS.2 9; have q3:=aa hS.2 10; go_simp)
  refine tr_br ?_ ?_
  ·have kb:Below W.heap.size W W.drew:=(Below.refl _ _).drew
   have k1:W.drew.heap[N]? = _:=hb1
   have k2:W.drew.heap[N + 1]? = _:=hb2
   refine au (.pointer (some ⟨W.drew.heap.size,0,none⟩)) (W.drew.alloc (.cells #[.slice none 0 0,.slice none 0 0,.slice none 0 0,.slice none 0 0] 47)) (by go_simp) ⟨ai k1 (ag _ _),ai k2 (ag _ _)⟩ ?_
   have hn5:=heap_alloc_new W.drew (.cells #[.slice none 0 0,.slice none 0 0,.slice none 0 0,.slice none 0 0] 47)
   have hawa:=ag W.drew (.cells #[.slice none 0 0,.slice none 0 0,.slice none 0 0,.slice none 0 0] 47)
   obtain ⟨wa,hwwa⟩:=gX (W.drew.alloc (.cells #[.slice none 0 0,.slice none 0 0,.slice none 0 0,.slice none 0 0] 47))
   obtain ⟨g5,hgg5⟩:=gX (W.drew.heap.size)
   rw [<- hwwa] at hn5 hawa ⊢
   rw [<- hgg5] at hn5 ⊢
   have hzg5:W.heap.size≤g5:=by rw [hgg5]; exact kb.size
   replace k1:=ai k1 hawa
   replace k2:=ai k2 hawa
   replace kb:=kb.trans (hawa.mono kb.size)
   have hne:g5 < wa.heap.size:=ae hn5
   clear hwwa
   refine ad ?_
   simp only [Act.put,PutA,PutZ,PutS]
   refine tr_run ?_
   refine au (.pointer (some ⟨wa.heap.size,0,none⟩)) (wa.alloc (.cells #[.slice none 0 0,.slice none 0 0,.slice none 0 0,.slice none 0 0] 47)) (by go_simp) ⟨ai k1 (ag _ _),ai k2 (ag _ _)⟩ ?_
   have hn6:=heap_alloc_new wa (.cells #[.slice none 0 0,.slice none 0 0,.slice none 0 0,.slice none 0 0] 47)
   have hawb:=ag wa (.cells #[.slice none 0 0,.slice none 0 0,.slice none 0 0,.slice none 0 0] 47)
   obtain ⟨wb,hwwb⟩:=gX (wa.alloc (.cells #[.slice none 0 0,.slice none 0 0,.slice none 0 0,.slice none 0 0] 47))
   obtain ⟨g6,hgg6⟩:=gX (wa.heap.size)
   rw [<- hwwb] at hn6 hawb ⊢
   rw [<- hgg6] at hn6 ⊢
   have hzg6:W.heap.size≤g6:=by rw [hgg6]; exact kb.size
   replace k1:=ai k1 hawb
   replace k2:=ai k2 hawb
   replace hn5:=ai hn5 hawb
   replace kb:=kb.trans (hawb.mono kb.size)
   have hne2:g5≠g6:=by omega
   clear hwwb hgg5 hgg6
   refine ad ?_
   simp only [Act.put,PutA,PutZ,PutS]
   refine tr_run ?_
   have hW5:W.heap.size≤g5∧W.heap.size≤g6∧g5≠N∧g5≠N + 1∧g6≠N∧g6≠N + 1:=by omega
   refine as_ 47 _ _ rfl rfl g5 47 _ [s0,s1,s2,s3] rfl rfl hn5 esz47 HONE.out.1 rfl ?_
   intro wc hs5 hg5
   have hz5:Below W.heap.size W wc:=bK kb hg5 hW5.1 kb.size
   have k1':=(hg5.block N (ae k1) (fun e => hW5.2.2.1 (Option.some.inj e).symm)).trans k1
   have k2':=(hg5.block (N + 1) (ae k2) (fun e => hW5.2.2.2.1 (Option.some.inj e).symm)).trans k2
   have hn6':=(hg5.block g6 (ae hn6) (fun e => by have:=Option.some.inj e; omega)).trans hn6
   refine ⟨⟨k1',k2'⟩,ad ?_⟩
   show wpTr _ _ _ _ _ _
   refine tr_run ?_
   refine as_ 47 _ _ rfl rfl g6 47 _ [t0,t1,t2,t3] rfl rfl hn6' esz47 HONE.out.2 rfl ?_
   intro wd hs6 hg6
   have HF:Hid (wd.heap[g5]? = some (.cells #[s0,s1,s2,s3] 47 (0,0))∧wd.heap[g6]? = some (.cells #[t0,t1,t2,t3] 47 (0,0))∧Below W.heap.size W wd):=qH ⟨(hg6.block g5 (ae hs5) (fun e => by have:=Option.some.inj e; omega)).trans hs5,hs6,bK hz5 hg6 hW5.2.1 hz5.size⟩
   refine ⟨⟨(hg6.block N (ae k1') (fun e => hW5.2.2.2.2.1 (Option.some.inj e).symm)).trans k1',(hg6.block (N + 1) (ae k2') (fun e => hW5.2.2.2.2.2 (Option.some.inj e).symm)).trans k2'⟩,ad ?_⟩
   show wpTr _ _ _ _ _ _
   refine tr_done ?_
   clear k1 k2 kb hn5 hn6 hn6' hs5 hs6 hg5 hg6 hz5 k1' k2' hb1 hb2
   go_wp2_with fail
   go_meet
   exact ⟨g5,g6,rfl,rfl,HF.out.1,HF.out.2.1,HF.out.2.2⟩
  have kb:Below W.heap.size W W.drew:=(Below.refl _ _).drew
  have k1:W.drew.heap[N]? = _:=hb1
  have k2:W.drew.heap[N + 1]? = _:=hb2
  refine au (.pointer (some ⟨W.drew.heap.size,0,none⟩)) (W.drew.alloc (.cells #[.slice none 0 0,.slice none 0 0,.slice none 0 0,.slice none 0 0] 47)) (by go_simp) ⟨ai k1 (ag _ _),ai k2 (ag _ _)⟩ ?_
  have hn6:=heap_alloc_new W.drew (.cells #[.slice none 0 0,.slice none 0 0,.slice none 0 0,.slice none 0 0] 47)
  have hawa:=ag W.drew (.cells #[.slice none 0 0,.slice none 0 0,.slice none 0 0,.slice none 0 0] 47)
  obtain ⟨wa,hwwa⟩:=gX (W.drew.alloc (.cells #[.slice none 0 0,.slice none 0 0,.slice none 0 0,.slice none 0 0] 47))
  obtain ⟨g6,hgg6⟩:=gX (W.drew.heap.size)
  rw [<- hwwa] at hn6 hawa ⊢
  rw [<- hgg6] at hn6 ⊢
  have hzg6:W.heap.size≤g6:=by rw [hgg6]; exact kb.size
  replace k1:=ai k1 hawa
  replace k2:=ai k2 hawa
  replace kb:=kb.trans (hawa.mono kb.size)
  have hne:g6 < wa.heap.size:=ae hn6
  clear hwwa
  refine ad ?_
  simp only [Act.put,PutA,PutZ,PutS]
  refine tr_run ?_
  refine au (.pointer (some ⟨wa.heap.size,0,none⟩)) (wa.alloc (.cells #[.slice none 0 0,.slice none 0 0,.slice none 0 0,.slice none 0 0] 47)) (by go_simp) ⟨ai k1 (ag _ _),ai k2 (ag _ _)⟩ ?_
  have hn5:=heap_alloc_new wa (.cells #[.slice none 0 0,.slice none 0 0,.slice none 0 0,.slice none 0 0] 47)
  have hawb:=ag wa (.cells #[.slice none 0 0,.slice none 0 0,.slice none 0 0,.slice none 0 0] 47)
  obtain ⟨wb,hwwb⟩:=gX (wa.alloc (.cells #[.slice none 0 0,.slice none 0 0,.slice none 0 0,.slice none 0 0] 47))
  obtain ⟨g5,hgg5⟩:=gX (wa.heap.size)
  rw [<- hwwb] at hn5 hawb ⊢
  rw [<- hgg5] at hn5 ⊢
  have hzg5:W.heap.size≤g5:=by rw [hgg5]; exact kb.size
  replace k1:=ai k1 hawb
  replace k2:=ai k2 hawb
  replace hn6:=ai hn6 hawb
  replace kb:=kb.trans (hawb.mono kb.size)
  have hne2:g6≠g5:=by omega
  clear hwwb hgg6 hgg5
  refine ad ?_
  simp only [Act.put,PutA,PutZ,PutS]
  refine tr_run ?_
  have hW5:W.heap.size≤g5∧W.heap.size≤g6∧g5≠N∧g5≠N + 1∧g6≠N∧g6≠N + 1:=by omega
  refine as_ 47 _ _ rfl rfl g5 47 _ [s0,s1,s2,s3] rfl rfl hn5 esz47 HONE.out.1 rfl ?_
  intro wc hs5 hg5
  have hz5:Below W.heap.size W wc:=bK kb hg5 hW5.1 kb.size
  have k1':=(hg5.block N (ae k1) (fun e => hW5.2.2.1 (Option.some.inj e).symm)).trans k1
  have k2':=(hg5.block (N + 1) (ae k2) (fun e => hW5.2.2.2.1 (Option.some.inj e).symm)).trans k2
  have hn6':=(hg5.block g6 (ae hn6) (fun e => by have:=Option.some.inj e; omega)).trans hn6
  refine ⟨⟨k1',k2'⟩,ad ?_⟩
  show wpTr _ _ _ _ _ _
  refine tr_run ?_
  refine as_ 47 _ _ rfl rfl g6 47 _ [t0,t1,t2,t3] rfl rfl hn6' esz47 HONE.out.2 rfl ?_
  intro wd hs6 hg6
  have HF:Hid (wd.heap[g5]? = some (.cells #[s0,s1,s2,s3] 47 (0,0))∧wd.heap[g6]? = some (.cells #[t0,t1,t2,t3] 47 (0,0))∧Below W.heap.size W wd):=qH ⟨(hg6.block g5 (ae hs5) (fun e => by have:=Option.some.inj e; omega)).trans hs5,hs6,bK hz5 hg6 hW5.2.1 hz5.size⟩
  refine ⟨⟨(hg6.block N (ae k1') (fun e => hW5.2.2.2.2.1 (Option.some.inj e).symm)).trans k1',(hg6.block (N + 1) (ae k2') (fun e => hW5.2.2.2.2.2 (Option.some.inj e).symm)).trans k2'⟩,ad ?_⟩
  show wpTr _ _ _ _ _ _
  refine tr_done ?_
  clear k1 k2 kb hn5 hn6 hn6' hs5 hs6 hg5 hg6 hz5 k1' k2' hb1 hb2
  go_wp2_with fail
  go_meet
  exact ⟨g5,g6,rfl,rfl,HF.out.1,HF.out.2.1,HF.out.2.2⟩
 obtain ⟨g5,g6,rfl,rfl,h5,h6,hbc⟩:=hcut
 have M0:=qH h5
 have L0:=qH h6
 have hk1:=ai hb1 hbc
 have hk2:=ai hb2 hbc
 replace K0:=qH hk1
 replace J0:=qH hk2
 replace HB0:=qH (HB0.out.trans (hbc.mono HB0.out.size))
 clear h5 h6 hbc hk1 hk2 hb1 hb2 HONE
 have eK0:=aa K0.out 0
 have dK0:=aa J0.out 0
 have C:=qH (eq_items n G wc _ _ _ _ (F0.out.below (aV n) HG.out HB0.out) (G0.out.below (aV n) HG.out HB0.out) (fun b h => Nat.lt_of_lt_of_le (HG.out b h) HB0.out.size))
 go_wp2_with fail
 refine C.out.mono ?_
 rintro e w1 ⟨r0,rfl,hr,hb⟩
 have HR0:=qH hr
 have HB1:=qH (HB0.out.trans (hb.mono HB0.out.size))
 have K1:=qH (ai K0.out hb)
 have J1:=qH (ai J0.out hb)
 have M1:=qH (ai M0.out hb)
 have L1:=qH (ai L0.out hb)
 clear C hb hr HB0 K0 J0 M0 L0 eK0 dK0
 cases r0
 ·go_wp2_with fail
  go_ret
  exact EqC.no (fun e => by cases e; have:=HR0.out.2 rfl; cases this) HB1.out
 have eK1:=aa K1.out 1
 have dK1:=aa J1.out 1
 have eK2:=aa K1.out 2
 have dK2:=aa J1.out 2
 have eK3:=aa K1.out 3
 have dK3:=aa J1.out 3
 have eK4:=aa K1.out 4
 have dK4:=aa J1.out 4
 have eK5:=aa K1.out 5
 have dK5:=aa J1.out 5
 have C:=qH (eq59 G w1 _ _ _ _ (Rp.below ay F1.out HG.out HB1.out) (Rp.below ay G1.out HG.out HB1.out) rfl rfl (fun b h => Nat.lt_of_lt_of_le (HG.out b h) HB1.out.size))
 go_wp2_with fail
 refine C.out.mono ?_
 rintro e w2 ⟨r1,rfl,hr,hb⟩
 have HR1:=qH hr
 have HB2:=qH (HB1.out.trans (hb.mono HB1.out.size))
 have K2:=qH (ai K1.out hb)
 have J2:=qH (ai J1.out hb)
 have M2:=qH (ai M1.out hb)
 have L2:=qH (ai L1.out hb)
 clear C hb hr HB1 K1 J1 M1 L1 eK1 dK1 eK2 dK2 eK3 dK3 eK4 dK4 eK5 dK5
 cases r1
 ·go_wp2_with fail
  go_ret
  exact EqC.no (fun e => by cases e; have:=HR1.out.2 rfl; cases this) HB2.out
 have eK6:=aa K2.out 6
 have dK6:=aa J2.out 6
 have C:=qH (eq60 G w2 _ _ _ _ (F2.out.below bg HG.out HB2.out) (G2.out.below bg HG.out HB2.out) (fun b h => Nat.lt_of_lt_of_le (HG.out b h) HB2.out.size))
 go_wp2_with fail
 refine C.out.mono ?_
 rintro e w3 ⟨r2,rfl,hr,hb⟩
 have HR2:=qH hr
 have HB3:=qH (HB2.out.trans (hb.mono HB2.out.size))
 have K3:=qH (ai K2.out hb)
 have J3:=qH (ai J2.out hb)
 have M3:=qH (ai M2.out hb)
 have L3:=qH (ai L2.out hb)
 clear C hb hr HB2 K2 J2 M2 L2 eK6 dK6
 cases r2
 ·go_wp2_with fail
  go_ret
  exact EqC.no (fun e => by cases e; have:=HR2.out.2 rfl; cases this) HB3.out
 have eM0:=aa M3.out 0
 have dM0:=aa L3.out 0
 have C:=qH (eq61 G w3 _ _ _ _ (F3.out.below aF HG.out HB3.out) (G3.out.below aF HG.out HB3.out) (fun b h => Nat.lt_of_lt_of_le (HG.out b h) HB3.out.size))
 go_wp2_with fail
 refine C.out.mono ?_
 rintro e w4 ⟨r3,rfl,hr,hb⟩
 have HR3:=qH hr
 have HB4:=qH (HB3.out.trans (hb.mono HB3.out.size))
 have K4:=qH (ai K3.out hb)
 have J4:=qH (ai J3.out hb)
 have M4:=qH (ai M3.out hb)
 have L4:=qH (ai L3.out hb)
 clear C hb hr HB3 K3 J3 M3 L3 eM0 dM0
 cases r3
 ·go_wp2_with fail
  go_ret
  exact EqC.no (fun e => by cases e; have:=HR3.out.2 rfl; cases this) HB4.out
 have eM1:=aa M4.out 1
 have dM1:=aa L4.out 1
 have C:=qH (eqf62 lstP aL one_lst eq57 G w4 _ _ _ _ (F4.out.below aL HG.out HB4.out) (G4.out.below aL HG.out HB4.out) (fun b h => Nat.lt_of_lt_of_le (HG.out b h) HB4.out.size))
 go_wp2_with fail
 refine C.out.mono ?_
 rintro e w5 ⟨r4,rfl,hr,hb⟩
 have HR4:=qH hr
 have HB5:=qH (HB4.out.trans (hb.mono HB4.out.size))
 have K5:=qH (ai K4.out hb)
 have J5:=qH (ai J4.out hb)
 have M5:=qH (ai M4.out hb)
 have L5:=qH (ai L4.out hb)
 clear C hb hr HB4 K4 J4 M4 L4 eM1 dM1
 cases r4
 ·go_wp2_with fail
  go_ret
  exact EqC.no (fun e => by cases e; have:=HR4.out.2 rfl; cases this) HB5.out
 have eM2:=aa M5.out 2
 have dM2:=aa L5.out 2
 have C:=qH (eq63 G w5 _ _ _ _ (F5.out.below aY HG.out HB5.out) (G5.out.below aY HG.out HB5.out) (fun b h => Nat.lt_of_lt_of_le (HG.out b h) HB5.out.size))
 go_wp2_with fail
 refine C.out.mono ?_
 rintro e w6 ⟨r5,rfl,hr,hb⟩
 have HR5:=qH hr
 have HB6:=qH (HB5.out.trans (hb.mono HB5.out.size))
 have K6:=qH (ai K5.out hb)
 have J6:=qH (ai J5.out hb)
 have M6:=qH (ai M5.out hb)
 have L6:=qH (ai L5.out hb)
 clear C hb hr HB5 K5 J5 M5 L5 eM2 dM2
 cases r5
 ·go_wp2_with fail
  go_ret
  exact EqC.no (fun e => by cases e; have:=HR5.out.2 rfl; cases this) HB6.out
 have eM3:=aa M6.out 3
 have dM3:=aa L6.out 3
 have C:=qH (eq64 G w6 _ _ _ _ (F6.out.below stb_vr HG.out HB6.out) (G6.out.below stb_vr HG.out HB6.out) (fun b h => Nat.lt_of_lt_of_le (HG.out b h) HB6.out.size))
 go_wp2_with fail
 refine C.out.mono ?_
 rintro e w7 ⟨r6,rfl,hr,hb⟩
 have HR6:=qH hr
 have HB7:=qH (HB6.out.trans (hb.mono HB6.out.size))
 have K7:=qH (ai K6.out hb)
 have J7:=qH (ai J6.out hb)
 have M7:=qH (ai M6.out hb)
 have L7:=qH (ai L6.out hb)
 clear C hb hr HB6 K6 J6 M6 L6 eM3 dM3
 cases r6
 ·go_wp2_with fail
  go_ret
  exact EqC.no (fun e => by cases e; have:=HR6.out.2 rfl; cases this) HB7.out
 go_wp2_with fail
 go_ret
 exact EqC.yes (by rw [HR0.out.1 (by trivial),HR1.out.1 (by trivial),HR2.out.1 (by trivial),HR3.out.1 (by trivial),HR4.out.1 (by trivial),HR5.out.1 (by trivial),HR6.out.1 (by trivial)]) HB7.out
end Go.Proofs.YtmhhcfceikcfbaaGreat
namespace Go.Proofs.YtmhhcfceikcfbaaGreat
open Go.RowKit
set_option maxRecDepth 100000
set_option maxHeartbeats 4000000
end Go.Proofs.YtmhhcfceikcfbaaGreat
namespace Go.Proofs.YtmhhcfceikcfbaaGreat
open Go.RowKit
set_option maxRecDepth 100000
set_option maxHeartbeats 4000000
theorem Slv.mono {α:Type} {R:Rp α} {sz:Nat} (hR:Stb R) {w w':World} {G G':Nat→Prop} {v:Value} {l:List α} (hv:Slv R sz w G v l) (_hG:∀ b,G b→b < w.heap.size) (hG':∀ b,G b→G' b) (hb:Below w.heap.size w w'):Slv R sz w' G' v l :=
 Slv.stb hR hG' (fun b _hg hl => hb.block b hl) hv
end Go.Proofs.YtmhhcfceikcfbaaGreat
namespace Go.Proofs.YtmhhcfceikcfbaaGreat
open Go.RowKit
set_option maxRecDepth 100000
set_option maxHeartbeats 4000000
theorem rep_all {n:Nat} {w:World} {a0:Nat} {vs:List Value} {x:Dc n} (h:dcP n w (aB a0 w) vs x):dcP n w (fun b => b < w.heap.size) vs x:=stb_dc n _ _ _ _ _ _ (fun _ h => h.2) (fun _ _ _ => rfl) h
theorem dc_len {n:Nat} {w:World} {G:Nat→Prop} {vs:List Value} {x:Dc n} (h:dcP n w G vs x):vs.length = 11:=by
 obtain ⟨_,_,_,_,_,_,_,_,_,_,_,rfl,_⟩:=h
 rfl
end Go.Proofs.YtmhhcfceikcfbaaGreat
namespace Go.Proofs.YtmhhcfceikcfbaaGreat
open Go.RowKit
set_option maxRecDepth 100000
set_option maxHeartbeats 4000000
theorem end28_rdr (r k0:Nat) (s:ByteArray) (e0:Int) (w:World) (h:Rdr 30 r s k0 e0 w) :
  Calls Tryz.prog 28 #[.pointer (some ⟨r,0,none⟩)] w fun e w' => e = .returned (.int .i64 (if k0 < s.size then errC e0 15 else e0))∧Rdr 30 r s k0 (if k0 < s.size then errC e0 15 else e0) w'∧w.grownBy w' (some r):=by
 obtain ⟨c0,c1,c2,f1,f2⟩:=h.cells
 have HR:=qH h
 clear h
 by_cases hk:k0 < s.size
 ·have d0:decide ((k0:Int) < (s.size:Int)) = true:=by simp; omega
  rw [if_pos hk]
  have b1:(k0:Int) < (s.size:Int):=by omega
  have HF:=qH (fun j:Nat => fail44_any r k0 s e0 15 (w.drewN j) (HR.out.drewN j))
  go_enter Tryz.func28,Tryz.ntmps28
  go_wp2_with fail
  go_quiet (fail)
  go_wp2_with fail
  refine (HF.out _).mono ?_
  rintro e w2 ⟨rfl,hr2,hg2⟩
  obtain ⟨c0',c1',c2',f1',f2'⟩:=hr2.cells
  have HG2:=qH (an (aZ (av w (some r)) _) hg2)
  have HR2:=qH hr2
  clear hr2 hg2 HF c0 c1 c2
  go_wp2_with fail
  go_ret
  exact ⟨rfl,HR2.out,HG2.out⟩
 have d0:decide ((k0:Int) < (s.size:Int)) = false:=by simp; omega
 have b1:¬ (k0:Int) < (s.size:Int):=by omega
 rw [if_neg hk]
 go_enter Tryz.func28,Tryz.ntmps28
 go_wp2_with fail
 go_quiet (fail)
 go_wp2_with fail
 go_ret
 exact ⟨rfl,HR.out.drewN _,aZ (av w (some r)) _⟩
end Go.Proofs.YtmhhcfceikcfbaaGreat
