/- Walks: equality of documents. -/
import Derived.BigQuiet
import Derived.Test.YtmhhcfceikcfbaaGreatDcM9
import Derived.Test.YtmhhcfceikcfbaaGreatDcQ2
namespace Go.Proofs.YtmhhcfceikcfbaaGreat
open Go.RowKit
set_option maxRecDepth 100000
set_option maxHeartbeats 4000000
theorem esz47:(Tryz.prog.info? 47).map (·.size) = some 4:=by kernel_rfl
theorem eq22 (n:Nat):EqEl 22 (dcP n) 11:=by
 intro G w vs us x y hx hy _ _ hG
 obtain ⟨f0,h0,h1,h2,h3,h4,r0,s0,s1,s2,s3,rfl,A0,A1,A2,A3⟩:=hx
 obtain ⟨f9,j0,j1,j2,j3,j4,r9,t0,t1,t2,t3,rfl,B0,B1,B2,B3⟩:=hy
 obtain ⟨x0,x1,x2,xs,xl,xc,xv⟩:=x
 obtain ⟨y0,y1,y2,ys,yl,yc,yv⟩:=y
 obtain ⟨_,_,_,_,he,P0,P1,P2,P3⟩:=A3
 cases he
 obtain ⟨_,_,_,_,he,Q0,Q1,Q2,Q3⟩:=B3
 cases he
 have hone:(∀ u∈[s0,s1,s2,s3],u.oneCell' = true)∧∀ u∈[t0,t1,t2,t3],u.oneCell' = true:=by
  obtain ⟨_,_,rfl,_,_⟩:=P0.shape
  obtain ⟨_,_,rfl,_,_⟩:=P1.shape
  obtain ⟨_,_,rfl,_,_⟩:=P2.shape
  obtain ⟨_,_,rfl,_,_⟩:=P3.shape
  obtain ⟨_,_,rfl,_,_⟩:=Q0.shape
  obtain ⟨_,_,rfl,_,_⟩:=Q1.shape
  obtain ⟨_,_,rfl,_,_⟩:=Q2.shape
  obtain ⟨_,_,rfl,_,_⟩:=Q3.shape
  constructor <;> intro u hu <;> simp at hu <;> rcases hu with rfl | rfl | rfl | rfl <;> rfl
 have HONE:=qH hone
 have F0:=qH A0
 have F1:=qH A1
 have F2:=qH A2
 have F3:=qH P0
 have F4:=qH P1
 have F5:=qH P2
 have F6:=qH P3
 have G0:=qH B0
 have G1:=qH B1
 have G2:=qH B2
 have G3:=qH Q0
 have G4:=qH Q1
 have G5:=qH Q2
 have G6:=qH Q3
 have HG:=qH hG
 clear A0 A1 A2 P0 P1 P2 P3 B0 B1 B2 Q0 Q1 Q2 Q3 hG hone
 obtain ⟨N,hN⟩:=gX (w.heap.size)
 obtain ⟨W,hW⟩:=gX (((w.alloc (.cells #[f0,h0,h1,h2,h3,h4,r0,s0,s1,s2,s3] 49)).alloc (.cells #[f9,j0,j1,j2,j3,j4,r9,t0,t1,t2,t3] 49)))
 have hb1:W.heap[N]? = some (.cells #[f0,h0,h1,h2,h3,h4,r0,s0,s1,s2,s3] 49 (0,0)):=by rw [hW,hN]; exact (Below.heap_alloc _ _ _ (by simp)).trans (heap_alloc_new _ _)
 have hb2:W.heap[N + 1]? = some (.cells #[f9,j0,j1,j2,j3,j4,r9,t0,t1,t2,t3] 49 (0,0)):=by rw [hW,hN]; exact ah _ _ (by simp)
 have hB:Below w.heap.size w W:=by rw [hW]; exact ((Below.refl _ _).alloc (Nat.le_refl _) _).alloc (by simp) _
 have HW:=qH hW
 have HN:=qH hN
 have HB0:=qH hB
 have K0:=qH hb1
 have J0:=qH hb2
 clear hW hN hB
 go_enter Tryz.func22,Tryz.ntmps22
 go_upto_region 1 with fail
 rw [<- HW.out,<- HN.out]
 clear HW
 go_cut [5,6] from 8 to 11 (fun p5 p6 wc => ∃ g5 g6:Nat,p5 = .pointer (some ⟨g5,0,none⟩)∧p6 = .pointer (some ⟨g6,0,none⟩)∧wc.heap[g5]? = some (.cells #[s0,s1,s2,s3] 47 (0,0))∧wc.heap[g6]? = some (.cells #[t0,t1,t2,t3] 47 (0,0))∧Below W.heap.size W wc)
 case first =>
  have hz1:=ac hb1
  have hz2:=ac hb2
  refine wp_region_tr (S:=fun w' => w'.heap[N]? = some (.cells #[f0,h0,h1,h2,h3,h4,r0,s0,s1,s2,s3] 49 (0,0))∧w'.heap[N + 1]? = some (.cells #[f9,j0,j1,j2,j3,j4,r9,t0,t1,t2,t3] 49 (0,0))) (.ld 0 (.ld 1 (.ld 2 (.ld 3 (.br 4 (.run 5 (.run 6 (.run 7 .done))) 5 (.run 4 (.run 6 (.run 7 .done)))))))) (by kernel_rfl) (by kernel_rfl) ⟨hb1,hb2⟩ ?_
  simp only [Tr.pick,List.getElem?_cons_succ,List.getElem?_cons_zero]
  refine tr1p N 7 ?_
  refine tr1 (.agg #[s0,s1,s2,s3]) ?_ (fun w' hS => by have q0:=aa hS.1 7; have q1:=aa hS.1 8; have q2:=aa hS.1 9; have q3:=aa hS.1 10; go_simp)
  refine tr1p (N + 1) 7 ?_
  refine tr1 (.agg #[t0,t1,t2,t3]) ?_ (fun w' hS => by have q0:=aa hS.2 7; have q1:=aa hS.2 8; have q2:=aa hS.2 9; have q3:=aa hS.2 10; go_simp)
  refine tr_br ?_ ?_
  ·have kb:Below W.heap.size W W.drew:=(Below.refl _ _).drew
   have k1:W.drew.heap[N]? = _:=hb1
   have k2:W.drew.heap[N + 1]? = _:=hb2
   refine aq (.pointer (some ⟨W.drew.heap.size,0,none⟩)) (W.drew.alloc (.cells #[.slice none 0 0,.slice none 0 0,.slice none 0 0,.slice none 0 0] 47)) (by go_simp) ⟨ai k1 (ag _ _),ai k2 (ag _ _)⟩ ?_
   have hn5:=heap_alloc_new W.drew (.cells #[.slice none 0 0,.slice none 0 0,.slice none 0 0,.slice none 0 0] 47)
   have hawa:=ag W.drew (.cells #[.slice none 0 0,.slice none 0 0,.slice none 0 0,.slice none 0 0] 47)
   obtain ⟨wa,hwwa⟩:=gX (W.drew.alloc (.cells #[.slice none 0 0,.slice none 0 0,.slice none 0 0,.slice none 0 0] 47))
   obtain ⟨g5,hgg5⟩:=gX (W.drew.heap.size)
   rw [<- hwwa] at hn5 hawa ⊢
   rw [<- hgg5] at hn5 ⊢
   have hzg5:W.heap.size≤g5:=by rw [hgg5]; exact kb.size
   replace k1:=ai k1 hawa
   replace k2:=ai k2 hawa
   replace kb:=kb.trans (hawa.mono kb.size)
   have hne:g5 < wa.heap.size:=ac hn5
   clear hwwa
   refine ad ?_
   simp only [Act.put,PutA,PutZ,PutS]
   refine bs ?_
   refine aq (.pointer (some ⟨wa.heap.size,0,none⟩)) (wa.alloc (.cells #[.slice none 0 0,.slice none 0 0,.slice none 0 0,.slice none 0 0] 47)) (by go_simp) ⟨ai k1 (ag _ _),ai k2 (ag _ _)⟩ ?_
   have hn6:=heap_alloc_new wa (.cells #[.slice none 0 0,.slice none 0 0,.slice none 0 0,.slice none 0 0] 47)
   have hawb:=ag wa (.cells #[.slice none 0 0,.slice none 0 0,.slice none 0 0,.slice none 0 0] 47)
   obtain ⟨wb,hwwb⟩:=gX (wa.alloc (.cells #[.slice none 0 0,.slice none 0 0,.slice none 0 0,.slice none 0 0] 47))
   obtain ⟨g6,hgg6⟩:=gX (wa.heap.size)
   rw [<- hwwb] at hn6 hawb ⊢
   rw [<- hgg6] at hn6 ⊢
   have hzg6:W.heap.size≤g6:=by rw [hgg6]; exact kb.size
   replace k1:=ai k1 hawb
   replace k2:=ai k2 hawb
   replace hn5:=ai hn5 hawb
   replace kb:=kb.trans (hawb.mono kb.size)
   have hne2:g5≠g6:=by omega
   clear hwwb hgg5 hgg6
   refine ad ?_
   simp only [Act.put,PutA,PutZ,PutS]
   refine bs ?_
   have hW5:W.heap.size≤g5∧W.heap.size≤g6∧g5≠N∧g5≠N + 1∧g6≠N∧g6≠N + 1:=by omega
   refine au 47 _ _ rfl rfl g5 47 _ [s0,s1,s2,s3] rfl rfl hn5 esz47 HONE.out.1 rfl ?_
   intro wc hs5 hg5
   have hz5:Below W.heap.size W wc:=bJ kb hg5 hW5.1 kb.size
   have k1':=(hg5.block N (ac k1) (fun e => hW5.2.2.1 (Option.some.inj e).symm)).trans k1
   have k2':=(hg5.block (N + 1) (ac k2) (fun e => hW5.2.2.2.1 (Option.some.inj e).symm)).trans k2
   have hn6':=(hg5.block g6 (ac hn6) (fun e => by have:=Option.some.inj e; omega)).trans hn6
   refine ⟨⟨k1',k2'⟩,ad ?_⟩
   show wpTr _ _ _ _ _ _
   refine bs ?_
   refine au 47 _ _ rfl rfl g6 47 _ [t0,t1,t2,t3] rfl rfl hn6' esz47 HONE.out.2 rfl ?_
   intro wd hs6 hg6
   have HF:Hid (wd.heap[g5]? = some (.cells #[s0,s1,s2,s3] 47 (0,0))∧wd.heap[g6]? = some (.cells #[t0,t1,t2,t3] 47 (0,0))∧Below W.heap.size W wd):=qH ⟨(hg6.block g5 (ac hs5) (fun e => by have:=Option.some.inj e; omega)).trans hs5,hs6,bJ hz5 hg6 hW5.2.1 hz5.size⟩
   refine ⟨⟨(hg6.block N (ac k1') (fun e => hW5.2.2.2.2.1 (Option.some.inj e).symm)).trans k1',(hg6.block (N + 1) (ac k2') (fun e => hW5.2.2.2.2.2 (Option.some.inj e).symm)).trans k2'⟩,ad ?_⟩
   show wpTr _ _ _ _ _ _
   refine tr_done ?_
   clear k1 k2 kb hn5 hn6 hn6' hs5 hs6 hg5 hg6 hz5 k1' k2' hb1 hb2
   go_wp2_with fail
   go_meet
   exact ⟨g5,g6,rfl,rfl,HF.out.1,HF.out.2.1,HF.out.2.2⟩
  have kb:Below W.heap.size W W.drew:=(Below.refl _ _).drew
  have k1:W.drew.heap[N]? = _:=hb1
  have k2:W.drew.heap[N + 1]? = _:=hb2
  refine aq (.pointer (some ⟨W.drew.heap.size,0,none⟩)) (W.drew.alloc (.cells #[.slice none 0 0,.slice none 0 0,.slice none 0 0,.slice none 0 0] 47)) (by go_simp) ⟨ai k1 (ag _ _),ai k2 (ag _ _)⟩ ?_
  have hn6:=heap_alloc_new W.drew (.cells #[.slice none 0 0,.slice none 0 0,.slice none 0 0,.slice none 0 0] 47)
  have hawa:=ag W.drew (.cells #[.slice none 0 0,.slice none 0 0,.slice none 0 0,.slice none 0 0] 47)
  obtain ⟨wa,hwwa⟩:=gX (W.drew.alloc (.cells #[.slice none 0 0,.slice none 0 0,.slice none 0 0,.slice none 0 0] 47))
  obtain ⟨g6,hgg6⟩:=gX (W.drew.heap.size)
  rw [<- hwwa] at hn6 hawa ⊢
  rw [<- hgg6] at hn6 ⊢
  have hzg6:W.heap.size≤g6:=by rw [hgg6]; exact kb.size
  replace k1:=ai k1 hawa
  replace k2:=ai k2 hawa
  replace kb:=kb.trans (hawa.mono kb.size)
  have hne:g6 < wa.heap.size:=ac hn6
  clear hwwa
  refine ad ?_
  simp only [Act.put,PutA,PutZ,PutS]
  refine bs ?_
  refine aq (.pointer (some ⟨wa.heap.size,0,none⟩)) (wa.alloc (.cells #[.slice none 0 0,.slice none 0 0,.slice none 0 0,.slice none 0 0] 47)) (by go_simp) ⟨ai k1 (ag _ _),ai k2 (ag _ _)⟩ ?_
  have hn5:=heap_alloc_new wa (.cells #[.slice none 0 0,.slice none 0 0,.slice none 0 0,.slice none 0 0] 47)
  have hawb:=ag wa (.cells #[.slice none 0 0,.slice none 0 0,.slice none 0 0,.slice none 0 0] 47)
  obtain ⟨wb,hwwb⟩:=gX (wa.alloc (.cells #[.slice none 0 0,.slice none 0 0,.slice none 0 0,.slice none 0 0] 47))
  obtain ⟨g5,hgg5⟩:=gX (wa.heap.size)
  rw [<- hwwb] at hn5 hawb ⊢
  rw [<- hgg5] at hn5 ⊢
  have hzg5:W.heap.size≤g5:=by rw [hgg5]; exact kb.size
  replace k1:=ai k1 hawb
  replace k2:=ai k2 hawb
  replace hn6:=ai hn6 hawb
  replace kb:=kb.trans (hawb.mono kb.size)
  have hne2:g6≠g5:=by omega
  clear hwwb hgg6 hgg5
  refine ad ?_
  simp only [Act.put,PutA,PutZ,PutS]
  refine bs ?_
  have hW5:W.heap.size≤g5∧W.heap.size≤g6∧g5≠N∧g5≠N + 1∧g6≠N∧g6≠N + 1:=by omega
  refine au 47 _ _ rfl rfl g5 47 _ [s0,s1,s2,s3] rfl rfl hn5 esz47 HONE.out.1 rfl ?_
  intro wc hs5 hg5
  have hz5:Below W.heap.size W wc:=bJ kb hg5 hW5.1 kb.size
  have k1':=(hg5.block N (ac k1) (fun e => hW5.2.2.1 (Option.some.inj e).symm)).trans k1
  have k2':=(hg5.block (N + 1) (ac k2) (fun e => hW5.2.2.2.1 (Option.some.inj e).symm)).trans k2
  have hn6':=(hg5.block g6 (ac hn6) (fun e => by have:=Option.some.inj e; omega)).trans hn6
  refine ⟨⟨k1',k2'⟩,ad ?_⟩
  show wpTr _ _ _ _ _ _
  refine bs ?_
  refine au 47 _ _ rfl rfl g6 47 _ [t0,t1,t2,t3] rfl rfl hn6' esz47 HONE.out.2 rfl ?_
  intro wd hs6 hg6
  have HF:Hid (wd.heap[g5]? = some (.cells #[s0,s1,s2,s3] 47 (0,0))∧wd.heap[g6]? = some (.cells #[t0,t1,t2,t3] 47 (0,0))∧Below W.heap.size W wd):=qH ⟨(hg6.block g5 (ac hs5) (fun e => by have:=Option.some.inj e; omega)).trans hs5,hs6,bJ hz5 hg6 hW5.2.1 hz5.size⟩
  refine ⟨⟨(hg6.block N (ac k1') (fun e => hW5.2.2.2.2.1 (Option.some.inj e).symm)).trans k1',(hg6.block (N + 1) (ac k2') (fun e => hW5.2.2.2.2.2 (Option.some.inj e).symm)).trans k2'⟩,ad ?_⟩
  show wpTr _ _ _ _ _ _
  refine tr_done ?_
  clear k1 k2 kb hn5 hn6 hn6' hs5 hs6 hg5 hg6 hz5 k1' k2' hb1 hb2
  go_wp2_with fail
  go_meet
  exact ⟨g5,g6,rfl,rfl,HF.out.1,HF.out.2.1,HF.out.2.2⟩
 obtain ⟨g5,g6,rfl,rfl,h5,h6,hbc⟩:=hcut
 have M0:=qH h5
 have L0:=qH h6
 have hk1:=ai hb1 hbc
 have hk2:=ai hb2 hbc
 replace K0:=qH hk1
 replace J0:=qH hk2
 replace HB0:=qH (HB0.out.trans (hbc.mono HB0.out.size))
 clear h5 h6 hbc hk1 hk2 hb1 hb2 HONE
 have eK0:=aa K0.out 0
 have dK0:=aa J0.out 0
 have C:=qH (eq_items n G wc _ _ _ _ (F0.out.below (aZ n) HG.out HB0.out) (G0.out.below (aZ n) HG.out HB0.out) (fun b h => Nat.lt_of_lt_of_le (HG.out b h) HB0.out.size))
 go_wp2_with fail
 refine C.out.mono ?_
 rintro e w1 ⟨r0,rfl,hr,hb⟩
 have HR0:=qH hr
 have HB1:=qH (HB0.out.trans (hb.mono HB0.out.size))
 have K1:=qH (ai K0.out hb)
 have J1:=qH (ai J0.out hb)
 have M1:=qH (ai M0.out hb)
 have L1:=qH (ai L0.out hb)
 clear C hb hr HB0 K0 J0 M0 L0 eK0 dK0
 cases r0
 ·go_wp2_with fail
  go_ret
  exact EqC.no (fun e => by cases e; have:=HR0.out.2 rfl; cases this) HB1.out
 have eK1:=aa K1.out 1
 have dK1:=aa J1.out 1
 have eK2:=aa K1.out 2
 have dK2:=aa J1.out 2
 have eK3:=aa K1.out 3
 have dK3:=aa J1.out 3
 have eK4:=aa K1.out 4
 have dK4:=aa J1.out 4
 have eK5:=aa K1.out 5
 have dK5:=aa J1.out 5
 have C:=qH (eq59 G w1 _ _ _ _ (Rp.below aK F1.out HG.out HB1.out) (Rp.below aK G1.out HG.out HB1.out) rfl rfl (fun b h => Nat.lt_of_lt_of_le (HG.out b h) HB1.out.size))
 go_wp2_with fail
 refine C.out.mono ?_
 rintro e w2 ⟨r1,rfl,hr,hb⟩
 have HR1:=qH hr
 have HB2:=qH (HB1.out.trans (hb.mono HB1.out.size))
 have K2:=qH (ai K1.out hb)
 have J2:=qH (ai J1.out hb)
 have M2:=qH (ai M1.out hb)
 have L2:=qH (ai L1.out hb)
 clear C hb hr HB1 K1 J1 M1 L1 eK1 dK1 eK2 dK2 eK3 dK3 eK4 dK4 eK5 dK5
 cases r1
 ·go_wp2_with fail
  go_ret
  exact EqC.no (fun e => by cases e; have:=HR1.out.2 rfl; cases this) HB2.out
 have eK6:=aa K2.out 6
 have dK6:=aa J2.out 6
 have C:=qH (eq60 G w2 _ _ _ _ (F2.out.below bC HG.out HB2.out) (G2.out.below bC HG.out HB2.out) (fun b h => Nat.lt_of_lt_of_le (HG.out b h) HB2.out.size))
 go_wp2_with fail
 refine C.out.mono ?_
 rintro e w3 ⟨r2,rfl,hr,hb⟩
 have HR2:=qH hr
 have HB3:=qH (HB2.out.trans (hb.mono HB2.out.size))
 have K3:=qH (ai K2.out hb)
 have J3:=qH (ai J2.out hb)
 have M3:=qH (ai M2.out hb)
 have L3:=qH (ai L2.out hb)
 clear C hb hr HB2 K2 J2 M2 L2 eK6 dK6
 cases r2
 ·go_wp2_with fail
  go_ret
  exact EqC.no (fun e => by cases e; have:=HR2.out.2 rfl; cases this) HB3.out
 have eM0:=aa M3.out 0
 have dM0:=aa L3.out 0
 have C:=qH (eq61 G w3 _ _ _ _ (F3.out.below aW HG.out HB3.out) (G3.out.below aW HG.out HB3.out) (fun b h => Nat.lt_of_lt_of_le (HG.out b h) HB3.out.size))
 go_wp2_with fail
 refine C.out.mono ?_
 rintro e w4 ⟨r3,rfl,hr,hb⟩
 have HR3:=qH hr
 have HB4:=qH (HB3.out.trans (hb.mono HB3.out.size))
 have K4:=qH (ai K3.out hb)
 have J4:=qH (ai J3.out hb)
 have M4:=qH (ai M3.out hb)
 have L4:=qH (ai L3.out hb)
 clear C hb hr HB3 K3 J3 M3 L3 eM0 dM0
 cases r3
 ·go_wp2_with fail
  go_ret
  exact EqC.no (fun e => by cases e; have:=HR3.out.2 rfl; cases this) HB4.out
 have eM1:=aa M4.out 1
 have dM1:=aa L4.out 1
 have C:=qH (eqf62 lstP bw one_lst eq57 G w4 _ _ _ _ (F4.out.below bw HG.out HB4.out) (G4.out.below bw HG.out HB4.out) (fun b h => Nat.lt_of_lt_of_le (HG.out b h) HB4.out.size))
 go_wp2_with fail
 refine C.out.mono ?_
 rintro e w5 ⟨r4,rfl,hr,hb⟩
 have HR4:=qH hr
 have HB5:=qH (HB4.out.trans (hb.mono HB4.out.size))
 have K5:=qH (ai K4.out hb)
 have J5:=qH (ai J4.out hb)
 have M5:=qH (ai M4.out hb)
 have L5:=qH (ai L4.out hb)
 clear C hb hr HB4 K4 J4 M4 L4 eM1 dM1
 cases r4
 ·go_wp2_with fail
  go_ret
  exact EqC.no (fun e => by cases e; have:=HR4.out.2 rfl; cases this) HB5.out
 have eM2:=aa M5.out 2
 have dM2:=aa L5.out 2
 have C:=qH (eq63 G w5 _ _ _ _ (F5.out.below stb_cmt HG.out HB5.out) (G5.out.below stb_cmt HG.out HB5.out) (fun b h => Nat.lt_of_lt_of_le (HG.out b h) HB5.out.size))
 go_wp2_with fail
 refine C.out.mono ?_
 rintro e w6 ⟨r5,rfl,hr,hb⟩
 have HR5:=qH hr
 have HB6:=qH (HB5.out.trans (hb.mono HB5.out.size))
 have K6:=qH (ai K5.out hb)
 have J6:=qH (ai J5.out hb)
 have M6:=qH (ai M5.out hb)
 have L6:=qH (ai L5.out hb)
 clear C hb hr HB5 K5 J5 M5 L5 eM2 dM2
 cases r5
 ·go_wp2_with fail
  go_ret
  exact EqC.no (fun e => by cases e; have:=HR5.out.2 rfl; cases this) HB6.out
 have eM3:=aa M6.out 3
 have dM3:=aa L6.out 3
 have C:=qH (eq64 G w6 _ _ _ _ (F6.out.below stb_vr HG.out HB6.out) (G6.out.below stb_vr HG.out HB6.out) (fun b h => Nat.lt_of_lt_of_le (HG.out b h) HB6.out.size))
 go_wp2_with fail
 refine C.out.mono ?_
 rintro e w7 ⟨r6,rfl,hr,hb⟩
 have HR6:=qH hr
 have HB7:=qH (HB6.out.trans (hb.mono HB6.out.size))
 have K7:=qH (ai K6.out hb)
 have J7:=qH (ai J6.out hb)
 have M7:=qH (ai M6.out hb)
 have L7:=qH (ai L6.out hb)
 clear C hb hr HB6 K6 J6 M6 L6 eM3 dM3
 cases r6
 ·go_wp2_with fail
  go_ret
  exact EqC.no (fun e => by cases e; have:=HR6.out.2 rfl; cases this) HB7.out
 go_wp2_with fail
 go_ret
 exact EqC.yes (by rw [HR0.out.1 (by trivial),HR1.out.1 (by trivial),HR2.out.1 (by trivial),HR3.out.1 (by trivial),HR4.out.1 (by trivial),HR5.out.1 (by trivial),HR6.out.1 (by trivial)]) HB7.out
end Go.Proofs.YtmhhcfceikcfbaaGreat
namespace Go.Proofs.YtmhhcfceikcfbaaGreat
open Go.RowKit
set_option maxRecDepth 100000
set_option maxHeartbeats 4000000
def BoolC (w:World) (e:Ending) (w':World):Prop:=∃ b,e = .returned (.bool b)∧Below w.heap.size w w'
def TwoC (w:World) (e:Ending) (w':World):Prop:=∃ a b:Int,e = .returned (.tuple #[.int .i64 a,.int .i64 b])∧Below w.heap.size w w'
def WeiS {α:Type} (R:Rp α):Prop:=∀ (G:Nat→Prop) (w:World) (v:Value) (l:List α),Slv R 11 w G v l→(∀ b,G b→b < w.heap.size)→Calls Tryz.prog 45 #[v] w (TwoC w)
theorem hd_shp {w:World} {G:Nat→Prop} {h0 h1 h2 h3 h4:Value} {x:Hd} (h:hdP w G [h0,h1,h2,h3,h4] x):∃ A0 c0 A3 c3 A4 c4 n0 n3 n4 y1 y2,h0 = .slice A0 n0 c0∧h1 = .int .i64 y1∧h2 = .int .i64 y2∧h3 = .slice A3 n3 c3∧h4 = .slice A4 n4 c4:=by
 obtain ⟨pv,dv,lv,e,_,_,h1,h2,h3⟩:=h
 obtain ⟨A0,c0,rfl,_,_⟩:=h1.shape
 obtain ⟨A3,c3,rfl,_,_⟩:=h2.shape
 obtain ⟨A4,c4,rfl,_,_⟩:=h3.shape
 simp only [List.cons.injEq] at e
 obtain ⟨rfl,rfl,rfl,rfl,rfl,_⟩:=e
 exact ⟨A0,c0,A3,c3,A4,c4,_,_,_,_,_,rfl,rfl,rfl,rfl,rfl⟩
theorem weight_step {α:Type} (R:Rp α) (hR:Stb R) (HI:WeiS R):WeiS (isP R):=by
 intro G w v l hv hG
 obtain ⟨A,cp,hsl,hlc,hcm⟩:=hv.shape
 subst hsl
 obtain ⟨n,hn⟩:=gX (l.length)
 unfold maxLen at hcm
 have HV:=qH hv
 rw [<- hn]
 have HN:=qH hn
 have HG:=qH hG
 have hnn:n≤9223372036854775807:=by omega
 clear hv hlc hn hG
 go_enter Tryz.func45,Tryz.ntmps45
 go_wp2_with fail
 go_loopw [2,3,4] (fun mv dv iv wr => ∃ (m d:Int) (i:Nat),mv = .int .i64 m∧dv = .int .i64 d∧iv = .int .i64 (i:Int)∧i≤n∧Hid (Below w.heap.size w wr)) (fun _ _ iv _ => n - (intOf iv).toNat)
 case atStart => exact ⟨_,_,0,rfl,rfl,rfl,Nat.zero_le _,qH (Below.refl _ _)⟩
 obtain ⟨m,d,i,rfl,rfl,rfl,hin,HB⟩:=hrel
 by_cases hlt:i < n
 ·have hlt':(i:Int) < (n:Int):=by omega
  by_cases hm:m < 5000
  ·obtain ⟨x,hx⟩:∃ x,l[i]? = some x:=⟨_,List.getElem?_eq_getElem (by rw [<- HN.out]; exact hlt)⟩
   obtain ⟨b,o,vs,rfl,hgb,hbw0,hvl,hRx,hcs⟩:=HV.out.at i x hx
   have hE:EltS b (o + i * 11) vs wr:=EltS.below (w:=w) hcs hbw0 HB.out
   have hbw:b < wr.heap.size:=Nat.lt_of_lt_of_le hbw0 HB.out.size
   obtain ⟨h0,h1x,h2,h3,h4,fv,rv,rfl,⟨hx1,hx2,hx3,hx4⟩,hH,hF,hR2⟩:=hRx
   obtain ⟨A0,c0,A3,c3,A4,c4,n0,n3,n4,y1,y2,rfl,rfl,rfl,rfl,rfl⟩:=hd_shp hH
   obtain ⟨rA,rc,rfl,rl1,rl2⟩:=hR2.shape
   obtain ⟨rn,hrn⟩:=gX (x.2.2.2.2.2.2.length)
   unfold maxLen at rl2
   have HR2:=qH hR2
   have HRN:=qH hrn
   rw [<- hrn] at hE rl1
   have hrn2:rn≤9223372036854775807:=by omega
   have HE:=qH hE
   have e3:=hE 3 _ rfl
   have e4:=hE 4 _ rfl
   have e7:=hE 7 _ rfl
   have e8:=hE 8 _ rfl
   clear hR2 hrn rl1 rl2 hH hcs hx hx1 hx2 hx3 hx4 hvl hE
   go_upto_region 5 with fail
   go_quiet (fail)
   generalize wrap64 (wrap64 (wrap64 (wrap64 (m + ↑n0) + ↑n3) + ↑n4) + wrap64 (↑x.2.2.2.1.size / 20)) = m1
   clear e3 e4 e7 e8
   obtain ⟨w1,hw1⟩:=gX (wr.drewN nq)
   rw [<- hw1]
   replace HB:=qH (show Below w.heap.size w w1 by rw [hw1]; exact an HB.out nq)
   replace HE:=qH (show EltS b (o + i * 11) _ w1 by rw [hw1]; exact HE.out)
   have hbw1:b < w1.heap.size:=by rw [hw1]; exact hbw
   have e9:=HE.out 9 _ rfl
   have CF:Hid (∀ (W:World),Below w.heap.size w W→Calls Tryz.prog 45 #[fv] W (TwoC W)):=qH (fun W hW => HI G W fv _ (hF.below hR HG.out hW) (fun b h => Nat.lt_of_lt_of_le (HG.out b h) hW.size))
   clear hw1 hF hbw
   go_wp2_with fail
   refine (CF.out _ HB.out).mono ?_
   rintro e w2 ⟨a1,b1,rfl,hb2⟩
   clear e9 CF
   replace HE:=qH (HE.out.below hbw1 hb2)
   have hbw2:=Nat.lt_of_lt_of_le hbw1 hb2.size
   replace HB:=qH (HB.out.trans (hb2.mono HB.out.size))
   clear hb2 hbw1
   obtain ⟨m2,hm2⟩:∃ M,wrap64 (m1 + a1) = M:=⟨_,rfl⟩
   obtain ⟨d1,hd1⟩:∃ D,wrap64 (b1 + 1) = D:=⟨_,rfl⟩
   obtain ⟨d2,hd2⟩:∃ D,(if d < d1 then d1 else d) = D:=⟨_,rfl⟩
   go_wp2_with fail
   clear hm2 hd1 hd2
   go_loopw [2,3,7] (fun mv dv iv wr => ∃ (m d:Int) (k:Nat),mv = .int .i64 m∧dv = .int .i64 d∧iv = .int .i64 (k:Int)∧k≤rn∧Hid (Below w2.heap.size w2 wr)) (fun _ _ iv _ => rn - (intOf iv).toNat)
   case atStart => exact ⟨_,_,0,rfl,rfl,rfl,Nat.zero_le _,qH (Below.refl _ _)⟩
   rename World => wq
   obtain ⟨m3,d3,k,rfl,rfl,rfl,hkn,HBq⟩:=hrel
   have HE2:=qH (HE.out.below hbw2 HBq.out)
   have hBW:=qH (HB.out.trans (HBq.out.mono HB.out.size))
   have hsq:w2.heap.size≤wq.heap.size:=HBq.out.size
   have e10:=HE2.out 10 _ rfl
   by_cases hklt:k < rn
   ·have hklt':(k:Int) < (rn:Int):=by omega
    by_cases hm3:m3 < 5000
    ·obtain ⟨y,hy⟩:∃ y,x.2.2.2.2.2.2[k]? = some y:=⟨_,List.getElem?_eq_getElem (by rw [<- HRN.out]; exact hklt)⟩
     obtain ⟨rb,ro,rvs,rfl,hrgb,hrbw0,hrvl,hRy,hrcs⟩:=HR2.out.at k y hy
     have hrE:EltS rb (ro + k * 6) rvs wq:=EltS.below (w:=w) hrcs hrbw0 hBW.out
     obtain ⟨r0,r1,r2,r3,r4,cv,rfl,hrH,hC⟩:=hRy
     obtain ⟨A5,c5,A8,c8,A9,c9,n5,n8,n9,i1,i2,rfl,rfl,rfl,rfl,rfl⟩:=hd_shp hrH
     obtain ⟨cA,cc,rfl,cl1,cl2⟩:=hC.shape
     obtain ⟨cn,hcn⟩:=gX (y.2.length)
     unfold maxLen at cl2
     have HC:=qH hC
     have HCN:=qH hcn
     rw [<- hcn] at hrE cl1
     have hcn2:cn≤9223372036854775807:=by omega
     have z0:=hrE 0 _ rfl
     simp only [Nat.add_zero] at z0
     have z1:=hrE 1 _ rfl
     have z2:=hrE 2 _ rfl
     have z3:=hrE 3 _ rfl
     have z4:=hrE 4 _ rfl
     have z5:=hrE 5 _ rfl
     clear hC hcn cl1 cl2 hrH hrcs hy hrvl hrE
     obtain ⟨m4,hm4⟩:∃ M,wrap64 (wrap64 (wrap64 (wrap64 (m3 + 1) + (n5:Int)) + (n8:Int)) + (n9:Int)) = M:=⟨_,rfl⟩
     obtain ⟨g,hg⟩:=gX (wq.heap.size)
     go_wp2_with fail
     clear z0 z1 z2 z3 z4 z5 hm4
     obtain ⟨W3,hW3⟩:=gX (wq.alloc (.cells #[.slice A5 n5 c5,.int .i64 i1,.int .i64 i2,.slice A8 n8 c8,.slice A9 n9 c9,.slice cA cn cc] 156))
     have hb3:W3.heap[g]? = some (.cells #[.slice A5 n5 c5,.int .i64 i1,.int .i64 i2,.slice A8 n8 c8,.slice A9 n9 c9,.slice cA cn cc] 156 (0,0)):=by rw [hW3]; exact ah _ _ hg
     have hB3:Below wq.heap.size wq W3:=by rw [hW3]; exact (Below.refl _ _).alloc (Nat.le_refl _) _
     rw [<- hW3,<- hg]
     have HB3:=qH hB3
     rw [<- hg] at hB3
     clear hW3
     have HBX:=qH (hBW.out.trans (hB3.mono (by have:=hBW.out.size; omega)))
     have hgW:g < W3.heap.size:=ac hb3
     have hwg:w.heap.size≤g:=by have:=hBW.out.size; omega
     have Hb3:=qH hb3
     have HGq:=qH hg
     clear hb3 hB3 hg
     go_loopw [2,3,9] (fun mv dv iv wr => ∃ (m d:Int) (j:Nat),mv = .int .i64 m∧dv = .int .i64 d∧iv = .int .i64 (j:Int)∧j≤cn∧Hid (Below W3.heap.size W3 wr)) (fun _ _ iv _ => cn - (intOf iv).toNat)
     case atStart => exact ⟨_,_,0,rfl,rfl,rfl,Nat.zero_le _,qH (Below.refl _ _)⟩
     rename World => ws
     obtain ⟨m5,d5,j,rfl,rfl,rfl,hjn,HBs⟩:=hrel
     have Hbs:=qH ((HBs.out.block _ hgW).trans Hb3.out)
     have hBS:=qH (HBX.out.trans (HBs.out.mono HBX.out.size))
     have f0:=aa Hbs.out 0
     have f1:=aa Hbs.out 1
     have f2:=aa Hbs.out 2
     have f3:=aa Hbs.out 3
     have f4:=aa Hbs.out 4
     have f5:=aa Hbs.out 5
     by_cases hjlt:j < cn
     ·have hjlt':(j:Int) < (cn:Int):=by omega
      by_cases hm5:m5 < 5000
      ·obtain ⟨z,hz⟩:∃ z,y.2[j]? = some z:=⟨_,List.getElem?_eq_getElem (by rw [<- HCN.out]; exact hjlt)⟩
       obtain ⟨cb,co,cvs,rfl,hcgb,hcbw0,hcvl,hRz,hccs⟩:=HC.out.at j z hz
       have hcE:EltS cb (co + j * 7) cvs ws:=EltS.below (w:=w) hccs hcbw0 hBS.out
       obtain ⟨k0,k1,k2,k3,k4,fv2,rfl,hz1,hzH,hzF⟩:=hRz
       obtain ⟨B1,e1,B4,e4,B5,e5,p1,p4,p5,j1,j2,rfl,rfl,rfl,rfl,rfl⟩:=hd_shp hzH
       have CF:Hid (∀ (W:World),Below w.heap.size w W→Calls Tryz.prog 45 #[fv2] W (TwoC W)):=qH (fun W hW => HI G W fv2 _ (hzF.below hR HG.out hW) (fun b h => Nat.lt_of_lt_of_le (HG.out b h) hW.size))
       have HCE:=qH hcE
       have c6:=hcE 6 _ rfl
       have hcb:cb < ws.heap.size:=Nat.lt_of_lt_of_le hcbw0 hBS.out.size
       clear hccs hz hcvl hz1 hzH hzF hcE
       go_wp2_with fail
       refine (CF.out _ hBS.out).mono ?_
       rintro e w5 ⟨a5,b5,rfl,hb5⟩
       clear CF c6 f0 f1 f2 f3 f4 f5
       replace HCE:=qH (HCE.out.below hcb hb5)
       replace Hbs:=qH ((hb5.block _ (by have:=HBs.out.size; omega)).trans Hbs.out)
       replace HBs:=qH (HBs.out.trans (hb5.mono HBs.out.size))
       clear hb5 hBS hcb
       have f5:=aa Hbs.out 5
       have q1:=HCE.out 1 _ rfl
       have q4:=HCE.out 4 _ rfl
       have q5:=HCE.out 5 _ rfl
       obtain ⟨D5,hD5⟩:∃ D,wrap64 (b5 + 1) = D:=⟨_,rfl⟩
       obtain ⟨E5,hE5⟩:∃ D,(if d5 < D5 then D5 else d5) = D:=⟨_,rfl⟩
       go_upto_region 17 with fail
       go_quiet (fail)
       clear f5 q1 q4 q5 hD5 hE5
       obtain ⟨w6,hw6⟩:=gX (w5.drewN nq)
       rw [<- hw6]
       replace HBs:=qH (show Below W3.heap.size W3 w6 by rw [hw6]; exact an HBs.out nq)
       clear hw6 Hbs HCE
       go_wp2_with fail
       exact ⟨⟨_,_,j + 1,rfl,rfl,by go_num,by omega,HBs⟩,by simp [intOf]; omega⟩
      go_wp2_with fail
      exact ⟨⟨_,_,k + 1,rfl,rfl,by go_num,by omega,qH (HBq.out.trans ((Below.trans HB3.out (HBs.out.mono (by have:=HB3.out.size; omega))).mono HBq.out.size))⟩,by simp [intOf]; omega⟩
     go_wp2_with fail
     exact ⟨⟨_,_,k + 1,rfl,rfl,by go_num,by omega,qH (HBq.out.trans ((Below.trans HB3.out (HBs.out.mono (by have:=HB3.out.size; omega))).mono HBq.out.size))⟩,by simp [intOf]; omega⟩
    go_wp2_with fail
    exact ⟨⟨_,_,i + 1,rfl,rfl,by go_num,by omega,hBW⟩,by simp [intOf]; omega⟩
   go_wp2_with fail
   exact ⟨⟨_,_,i + 1,rfl,rfl,by go_num,by omega,hBW⟩,by simp [intOf]; omega⟩
  go_wp2_with fail
  go_ret2
  exact ⟨m,d,rfl,HB.out⟩
 go_wp2_with fail
 go_ret2
 exact ⟨m,d,rfl,HB.out⟩
theorem weight_none (w:World) (A:Option Addr) (cp:Nat):Calls Tryz.prog 45 #[.slice A 0 cp] w (TwoC w):=by
 go_enter Tryz.func45,Tryz.ntmps45
 go_wp2_with fail
 go_loopw [2,3,4] (fun mv dv iv wr => mv = .int .i64 0∧dv = .int .i64 1∧iv = .int .i64 0∧wr = w) (fun _ _ _ _ => 0)
 case atStart => exact ⟨rfl,rfl,rfl,rfl⟩
 obtain ⟨rfl,rfl,rfl,hw⟩:=hrel
 subst hw
 go_wp2_with fail
 go_ret2
 exact ⟨0,1,rfl,Below.refl _ _⟩
theorem weight_any:∀ n,WeiS (itP n)
 | 0 => fun G w v l hv hG => by
  have e:l = []:=by
   cases l with
   | nil => rfl
   | cons x _ => exact Empty.elim x
  subst e
  obtain ⟨A,cp,hsl,_,_⟩:=hv.shape
  subst hsl
  exact weight_none w A cp
 | n + 1 => weight_step (itP n) (aZ n) (weight_any n)
theorem small18 (w0 w:World) (vals:List Value) (b o c:Nat) (hc:EltS b o vals w) (hn:vals.length≤1000) (hb:b < w.heap.size) (hB:Below w0.heap.size w0 w) (hC:∀ v∈vals,∀ W,Below w0.heap.size w0 W→Calls Tryz.prog 45 #[v] W (TwoC W)) :
  Calls Tryz.prog 18 #[.slice (some ⟨b,o,none⟩) vals.length c] w (BoolC w):=by
 obtain ⟨n,hn'⟩:=gX (vals.length)
 rw [<- hn'] at hn ⊢
 have HN:=qH hn'
 have HC:=qH hC
 have HE:=qH hc
 have HB:=qH hB
 clear hn' hC hc hB
 go_enter Tryz.func18,Tryz.ntmps18
 go_wp2_with fail
 go_loopw [3] (fun iv wr => ∃ i:Nat,iv = .int .i64 (i:Int)∧i≤n∧Hid (Below w.heap.size w wr)) (fun iv _ => n - (intOf iv).toNat)
 case atStart => exact ⟨0,rfl,Nat.zero_le _,qH (Below.refl _ _)⟩
 obtain ⟨i,rfl,hin,HW⟩:=hrel
 by_cases hlt:i < n
 ·have hlt':(i:Int) < (n:Int):=by omega
  obtain ⟨x,hx⟩:∃ x,vals[i]? = some x:=⟨_,List.getElem?_eq_getElem (by rw [<- HN.out]; exact hlt)⟩
  have hE:=(HE.out.below hb HW.out) i x hx
  have HF:=qH (HC.out x (List.mem_of_getElem? hx) wr (HB.out.trans (HW.out.mono HB.out.size)))
  clear hx
  go_wp2_with fail
  refine HF.out.mono ?_
  rintro e w2 ⟨a,d,rfl,hb2⟩
  have HW2:=qH (HW.out.trans (hb2.mono HW.out.size))
  clear HF hE hb2 HW
  by_cases h1:a > 300
  ·go_wp2_with fail
   go_ret
   exact ⟨_,rfl,HW2.out⟩
  by_cases h2:d > 6
  ·go_wp2_with fail
   go_ret
   exact ⟨_,rfl,HW2.out⟩
  go_wp2_with fail
  exact ⟨⟨i + 1,by go_num,by omega,HW2⟩,by simp [intOf]; omega⟩
 go_wp2_with fail
 go_ret
 exact ⟨_,rfl,HW.out⟩
end Go.Proofs.YtmhhcfceikcfbaaGreat
namespace Go.Proofs.YtmhhcfceikcfbaaGreat
open Go.RowKit
set_option maxRecDepth 100000
set_option maxHeartbeats 4000000
theorem few19 (G:Nat→Prop) (w:World) (vs:List Value) (x:Stg) (hR:stgP w G vs x) (_hG:∀ b,G b→b < w.heap.size):Calls Tryz.prog 19 #[.agg vs.toArray] w (BoolC w):=by
 obtain ⟨v0,v1,v2,v3,rfl,h0,h1,h2,h3⟩:=hR
 obtain ⟨A0,c0,rfl,l0,m0⟩:=h0.shape
 obtain ⟨n0,hn0⟩:=gX (x.1.length)
 unfold maxLen at m0
 have H0:=qH h0
 have HN0:=qH hn0
 rw [<- hn0]
 have r0:n0≤9223372036854775807:=by omega
 clear h0 hn0 l0 m0
 obtain ⟨A1,c1,rfl,l1,m1⟩:=h1.shape
 obtain ⟨n1,hn1⟩:=gX (x.2.1.length)
 unfold maxLen at m1
 have H1:=qH h1
 have HN1:=qH hn1
 rw [<- hn1]
 have r1:n1≤9223372036854775807:=by omega
 clear h1 hn1 l1 m1
 obtain ⟨A2,c2,rfl,l2,m2⟩:=h2.shape
 obtain ⟨n2,hn2⟩:=gX (x.2.2.1.length)
 unfold maxLen at m2
 have H2:=qH h2
 have HN2:=qH hn2
 rw [<- hn2]
 have r2:n2≤9223372036854775807:=by omega
 clear h2 hn2 l2 m2
 obtain ⟨A3,c3,rfl,l3,m3⟩:=h3.shape
 obtain ⟨n3,hn3⟩:=gX (x.2.2.2.length)
 unfold maxLen at m3
 have H3:=qH h3
 have HN3:=qH hn3
 rw [<- hn3]
 have r3:n3≤9223372036854775807:=by omega
 clear h3 hn3 l3 m3
 obtain ⟨g,hg⟩:=gX (w.heap.size)
 obtain ⟨W,hW⟩:=gX (w.alloc (.cells #[.slice A0 n0 c0,.slice A1 n1 c1,.slice A2 n2 c2,.slice A3 n3 c3] 47))
 have hb:W.heap[g]? = some (.cells #[.slice A0 n0 c0,.slice A1 n1 c1,.slice A2 n2 c2,.slice A3 n3 c3] 47 (0,0)):=by rw [hW]; exact ah _ _ hg
 have HB:Hid (Below w.heap.size w W):=qH (by rw [hW]; exact (Below.refl _ _).alloc (Nat.le_refl _) _)
 have HW:=qH hW
 have HGq:=qH hg
 have p0:=aa hb 0
 have p1:=aa hb 1
 have p2:=aa hb 2
 have p3:=aa hb 3
 clear hW hb hg
 go_enter Tryz.func19,Tryz.ntmps19
 go_upto_region 1 with fail
 rw [<- HW.out,<- HGq.out]
 clear HW HGq
 by_cases qn0:n0 > 40
 ·have qn0':(n0:Int) > 40:=by omega
  go_wp2_with fail
  go_ret
  exact ⟨_,rfl,HB.out⟩
 have qn0':¬ (n0:Int) > 40:=by omega
 by_cases qn1:n1 > 40
 ·have qn1':(n1:Int) > 40:=by omega
  go_wp2_with fail
  go_ret
  exact ⟨_,rfl,HB.out⟩
 have qn1':¬ (n1:Int) > 40:=by omega
 by_cases qn2:n2 > 40
 ·have qn2':(n2:Int) > 40:=by omega
  go_wp2_with fail
  go_ret
  exact ⟨_,rfl,HB.out⟩
 have qn2':¬ (n2:Int) > 40:=by omega
 by_cases qn3:n3 > 40
 ·have qn3':(n3:Int) > 40:=by omega
  go_wp2_with fail
  go_ret
  exact ⟨_,rfl,HB.out⟩
 have qn3':¬ (n3:Int) > 40:=by omega
 go_wp2_with fail
 go_loop [3] (fun iv => ∃ i:Nat,iv = .int .i64 (i:Int)∧i≤n0) (fun iv => n0 - (intOf iv).toNat)
 case atStart => exact ⟨0,rfl,Nat.zero_le _⟩
 obtain ⟨i,rfl,hin⟩:=hrel
 by_cases hlt:i < n0
 ·have hlt':(i:Int) < (n0:Int):=by omega
  obtain ⟨y,hy⟩:∃ y,x.1[i]? = some y:=⟨_,List.getElem?_eq_getElem (by rw [<- HN0.out]; exact hlt)⟩
  obtain ⟨b,o,vs,rfl,hgb,hbw,hvl,hRx,hcs⟩:=H0.out.at i y hy
  have hE:EltS b (o + i * 6) vs W:=EltS.below (w:=w) hcs hbw HB.out
  obtain ⟨pv,rfl,_,hl⟩:=hRx
  obtain ⟨lA,lc,rfl,ll1,ll2⟩:=hl.shape
  obtain ⟨t1,ht1⟩:=gX (y.2.2.2.2.2.length)
  rw [<- ht1] at hE
  obtain ⟨s1,hs1⟩:=gX (y.2.2.1)
  rw [<- hs1] at hE
  clear hs1
  clear ht1 hl ll1 ll2
  have e2:=hE 2 _ rfl
  have e5:=hE 5 _ rfl
  clear hcs hy hvl hE
  by_cases qs1:s1.size > 300
  ·have qs1':(s1.size:Int) > 300:=by omega
   go_wp2_with fail
   go_ret
   exact ⟨_,rfl,HB.out⟩
  have qs1':¬ (s1.size:Int) > 300:=by omega
  by_cases qt1:t1 > 20
  ·have qt1':(t1:Int) > 20:=by omega
   go_wp2_with fail
   go_ret
   exact ⟨_,rfl,HB.out⟩
  have qt1':¬ (t1:Int) > 20:=by omega
  go_wp2_with fail
  exact ⟨⟨i + 1,by go_num,by omega⟩,by simp [intOf]; omega⟩
 have hlt':¬ (i:Int) < (n0:Int):=by omega
 go_wp2_with fail
 go_loop [4] (fun iv => ∃ i:Nat,iv = .int .i64 (i:Int)∧i≤n1) (fun iv => n1 - (intOf iv).toNat)
 case atStart => exact ⟨0,rfl,Nat.zero_le _⟩
 obtain ⟨i,rfl,hin⟩:=hrel
 by_cases hlt:i < n1
 ·have hlt':(i:Int) < (n1:Int):=by omega
  obtain ⟨y,hy⟩:∃ y,x.2.1[i]? = some y:=⟨_,List.getElem?_eq_getElem (by rw [<- HN1.out]; exact hlt)⟩
  obtain ⟨b,o,vs,rfl,hgb,hbw,hvl,hRx,hcs⟩:=H1.out.at i y hy
  have hE:EltS b (o + i * 2) vs W:=EltS.below (w:=w) hcs hbw HB.out
  obtain ⟨lv,rfl,_,hl⟩:=hRx
  obtain ⟨lA,lc,rfl,ll1,ll2⟩:=hl.shape
  obtain ⟨t1,ht1⟩:=gX (y.2.length)
  unfold maxLen at ll2
  have HL:=qH hl
  have HT:=qH ht1
  rw [<- ht1] at hE ll1
  have ht2:t1≤9223372036854775807:=by omega
  clear ht1 hl ll1 ll2
  have e1:=hE 1 _ rfl
  clear hcs hy hvl hE
  by_cases qt1:t1 > 20
  ·have qt1':(t1:Int) > 20:=by omega
   go_wp2_with fail
   go_ret
   exact ⟨_,rfl,HB.out⟩
  have qt1':¬ (t1:Int) > 20:=by omega
  go_wp2_with fail
  go_loop [5] (fun jv => ∃ j:Nat,jv = .int .i64 (j:Int)∧j≤t1) (fun jv => t1 - (intOf jv).toNat)
  case atStart => exact ⟨0,rfl,Nat.zero_le _⟩
  obtain ⟨j,rfl,hjn⟩:=hrel
  by_cases hjl:j < t1
  ·have hjl':(j:Int) < (t1:Int):=by omega
   obtain ⟨z,hz⟩:∃ z,y.2[j]? = some z:=⟨_,List.getElem?_eq_getElem (by rw [<- HT.out]; exact hjl)⟩
   obtain ⟨b2,o2,vs2,rfl,hgb2,hbw2,hvl2,hRz,hcs2⟩:=HL.out.at j z hz
   have hE2:EltS b2 (o2 + j * 4) vs2 W:=EltS.below (w:=w) hcs2 hbw2 HB.out
   obtain ⟨rfl,_⟩:=hRz
   obtain ⟨s1,hs1⟩:=gX (z.2.2.1)
   rw [<- hs1] at hE2
   clear hs1
   have f2:=hE2 2 _ rfl
   clear hcs2 hz hvl2 hE2
   by_cases qs1:s1.size > 300
   ·have qs1':(s1.size:Int) > 300:=by omega
    go_wp2_with fail
    go_ret
    exact ⟨_,rfl,HB.out⟩
   have qs1':¬ (s1.size:Int) > 300:=by omega
   go_wp2_with fail
   exact ⟨⟨j + 1,by go_num,by omega⟩,by simp [intOf]; omega⟩
  have hjl':¬ (j:Int) < (t1:Int):=by omega
  go_wp2_with fail
  exact ⟨⟨i + 1,by go_num,by omega⟩,by simp [intOf]; omega⟩
 have hlt':¬ (i:Int) < (n1:Int):=by omega
 go_wp2_with fail
 go_loop [6] (fun iv => ∃ i:Nat,iv = .int .i64 (i:Int)∧i≤n2) (fun iv => n2 - (intOf iv).toNat)
 case atStart => exact ⟨0,rfl,Nat.zero_le _⟩
 obtain ⟨i,rfl,hin⟩:=hrel
 by_cases hlt:i < n2
 ·have hlt':(i:Int) < (n2:Int):=by omega
  obtain ⟨y,hy⟩:∃ y,x.2.2.1[i]? = some y:=⟨_,List.getElem?_eq_getElem (by rw [<- HN2.out]; exact hlt)⟩
  obtain ⟨b,o,vs,rfl,hgb,hbw,hvl,hRx,hcs⟩:=H2.out.at i y hy
  have hE:EltS b (o + i * 6) vs W:=EltS.below (w:=w) hcs hbw HB.out
  obtain ⟨rfl,_⟩:=hRx
  obtain ⟨s1,hs1⟩:=gX (y.2.2.1)
  rw [<- hs1] at hE
  obtain ⟨s2,hs2⟩:=gX (y.2.2.2.2.1)
  rw [<- hs2] at hE
  clear hs1
  clear hs2
  have e2:=hE 2 _ rfl
  have e4:=hE 4 _ rfl
  clear hcs hy hvl hE
  by_cases qs1:s1.size > 300
  ·have qs1':(s1.size:Int) > 300:=by omega
   go_wp2_with fail
   go_ret
   exact ⟨_,rfl,HB.out⟩
  have qs1':¬ (s1.size:Int) > 300:=by omega
  by_cases qs2:s2.size > 300
  ·have qs2':(s2.size:Int) > 300:=by omega
   go_wp2_with fail
   go_ret
   exact ⟨_,rfl,HB.out⟩
  have qs2':¬ (s2.size:Int) > 300:=by omega
  go_wp2_with fail
  exact ⟨⟨i + 1,by go_num,by omega⟩,by simp [intOf]; omega⟩
 have hlt':¬ (i:Int) < (n2:Int):=by omega
 go_wp2_with fail
 go_loop [7] (fun iv => ∃ i:Nat,iv = .int .i64 (i:Int)∧i≤n3) (fun iv => n3 - (intOf iv).toNat)
 case atStart => exact ⟨0,rfl,Nat.zero_le _⟩
 obtain ⟨i,rfl,hin⟩:=hrel
 by_cases hlt:i < n3
 ·have hlt':(i:Int) < (n3:Int):=by omega
  obtain ⟨y,hy⟩:∃ y,x.2.2.2[i]? = some y:=⟨_,List.getElem?_eq_getElem (by rw [<- HN3.out]; exact hlt)⟩
  obtain ⟨b,o,vs,rfl,hgb,hbw,hvl,hRx,hcs⟩:=H3.out.at i y hy
  have hE:EltS b (o + i * 2) vs W:=EltS.below (w:=w) hcs hbw HB.out
  obtain ⟨rfl,_⟩:=hRx
  obtain ⟨s1,hs1⟩:=gX (y.1)
  rw [<- hs1] at hE
  obtain ⟨s2,hs2⟩:=gX (y.2)
  rw [<- hs2] at hE
  clear hs1
  clear hs2
  have e0:=hE 0 _ rfl
  have e1:=hE 1 _ rfl
  clear hcs hy hvl hE
  simp only [Nat.add_zero] at e0
  by_cases qs1:s1.size > 300
  ·have qs1':(s1.size:Int) > 300:=by omega
   go_wp2_with fail
   go_ret
   exact ⟨_,rfl,HB.out⟩
  have qs1':¬ (s1.size:Int) > 300:=by omega
  by_cases qs2:s2.size > 300
  ·have qs2':(s2.size:Int) > 300:=by omega
   go_wp2_with fail
   go_ret
   exact ⟨_,rfl,HB.out⟩
  have qs2':¬ (s2.size:Int) > 300:=by omega
  go_wp2_with fail
  exact ⟨⟨i + 1,by go_num,by omega⟩,by simp [intOf]; omega⟩
 have hlt':¬ (i:Int) < (n3:Int):=by omega
 go_wp2_with fail
 go_ret
 exact ⟨_,rfl,HB.out⟩
theorem i64_0:I64 0:=⟨by decide,by decide⟩
theorem slv_one {α:Type} {R:Rp α} {sz g:Nat} {t:TypeId} {W:World} {G:Nat→Prop} {cs:Array Value} {x:α} (hb:W.heap[g]? = some (.cells cs t (0,0))) (hs:cs.size = sz) (hG:G g) (hR:R W G cs.toList x):Slv R sz W G (.slice (some ⟨g,0,none⟩) 1 1) [x]:=by
 refine ⟨_,_,rfl,by simp,by simp [maxLen],fun _ => ⟨g,0,rfl,hG,ac hb,fun i y hy => ?_⟩⟩
 have hi:i = 0:=by
  have:=(List.getElem?_eq_some_iff.1 hy).1
  simp at this
  exact this
 subst hi
 simp only [List.getElem?_cons_zero,Option.some.injEq] at hy
 subst hy
 refine ⟨cs.toList,by simp [hs],hR,fun j u hu => ?_⟩
 rw [show 0 + 0 * sz + j = j by omega,aa hb j]
 simpa using hu
theorem Slv.mono {α:Type} {R:Rp α} {sz:Nat} (hR:Stb R) {w w':World} {G G':Nat→Prop} {v:Value} {l:List α} (hv:Slv R sz w G v l) (_hG:∀ b,G b→b < w.heap.size) (hG':∀ b,G b→G' b) (hb:Below w.heap.size w w'):Slv R sz w' G' v l :=
 Slv.stb hR hG' (fun b _hg hl => hb.block b hl) hv
end Go.Proofs.YtmhhcfceikcfbaaGreat
