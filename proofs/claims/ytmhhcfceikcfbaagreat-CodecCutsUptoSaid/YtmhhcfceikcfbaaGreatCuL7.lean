/- Walks: the law's bytes of items to all depths, of pieces, splices, edits. -/
import Derived.Test.YtmhhcfceikcfbaaGreatCuD1
import Derived.Test.YtmhhcfceikcfbaaGreatCuL5
import Derived.Test.YtmhhcfceikcfbaaGreatCuL6
import Derived.Test.YtmhhcfceikcfbaaGreatCuN14
import Derived.Test.YtmhhcfceikcfbaaGreatCuT2
namespace Go.Proofs.YtmhhcfceikcfbaaGreat
open Go.RowKit
set_option maxRecDepth 100000
set_option maxHeartbeats 4000000
theorem str_none (w:World) (A:Option Addr) (cp:Nat):Calls Tryz.prog 25 #[.slice A 0 cp] w (StrE w (encN 0)):=by
 have CN:=qH (bs 0 (by unfold I64; omega) w)
 go_enter Tryz.func25,Tryz.ntmps25
 go_wp2_with fail
 refine CN.out.mono ?_
 rintro e w1 ⟨rfl,hb1⟩
 have HB1:=qH hb1
 clear hb1 CN
 go_wp2_with fail
 go_loopw [3,4] (fun sv iv wr => sv = .string (mkB (encN 0))∧iv = .int .i64 0∧Hid (Below w.heap.size w wr)) (fun _ _ _ => 0)
 case atStart => exact ⟨rfl,rfl,HB1⟩
 obtain ⟨rfl,rfl,HB⟩:=hrel
 clear HB1
 go_wp2_with fail
 go_ret
 exact ⟨rfl,HB.out⟩
theorem str_items:∀ n,ItemsS (itP n) (itE n)
 | 0 => fun G w v l hv hG hz => by
  have e:l = []:=by
   cases l with
   | nil => rfl
   | cons x _ => exact Empty.elim x
  subst e
  obtain ⟨A,cp,hsl,_,_⟩:=hv.shape
  subst hsl
  have h:=str_none w A cp
  have e2:ai (itE 0) ([]:List (It 0)) = encN 0:=by simp [ai]
  rw [e2]
  exact h
 | n + 1 => fun G w v l hv hG hz => str_items_step (itP n) (itE n) (as_ n) (str_items n) G w v l hv hG hz
theorem str_piece (n:Nat) (G:Nat→Prop) (w:World) (vs:List Value) (x:Pc n) (hR:pcP n w G vs x) (hG:∀ b,G b→b < w.heap.size) (hz:(pcE n x).length≤1099511627776):Calls Tryz.prog 89 #[.agg vs.toArray] w (StrE w (pcE n x)):=by
 obtain ⟨v0,v1,v2,h0,h1,h2,h3,h4,s0,s1,s2,s3,rfl,t0,t1,t2,t3,t4⟩:=hR
 have hE0:pcE n x = ai (itE n) x.1++ai (rwE (itE n)) x.2.1++ai (ceE (itE n)) x.2.2.1++hdE x.2.2.2.1++stgE x.2.2.2.2:=by
  simp only [pcE,seqE,List.append_assoc]
 rw [hE0] at hz ⊢
 clear hE0
 obtain ⟨RR,hRR⟩:=gX (ai (itE n) x.1++ai (rwE (itE n)) x.2.1++ai (ceE (itE n)) x.2.2.1++hdE x.2.2.2.1++stgE x.2.2.2.2)
 rw [<- hRR]
 obtain ⟨P1,hP1⟩:=gX (ai (itE n) x.1)
 have C1:Hid (∀ (W:World),Below w.heap.size w W→Calls Tryz.prog 25 #[v0] W (StrE W P1)):=qH (fun W hW => by rw [hP1]; exact str_items n G W v0 x.1 (t0.below (as_ n) hG hW) (fun b h => Nat.lt_of_lt_of_le (hG b h) hW.size) (by simp only [List.length_append] at hz; omega))
 obtain ⟨P2,hP2⟩:=gX (ai (rwE (itE n)) x.2.1)
 have C2:Hid (∀ (W:World),Below w.heap.size w W→Calls Tryz.prog 70 #[v1] W (StrE W P2)):=qH (fun W hW => by rw [hP2]; exact str_rows (itP n) (itE n) (as_ n) (str_items n) G W v1 x.2.1 (t1.below (be (as_ n)) hG hW) (fun b h => Nat.lt_of_lt_of_le (hG b h) hW.size) (by simp only [List.length_append] at hz; omega))
 obtain ⟨P3,hP3⟩:=gX (ai (ceE (itE n)) x.2.2.1)
 have C3:Hid (∀ (W:World),Below w.heap.size w W→Calls Tryz.prog 85 #[v2] W (StrE W P3)):=qH (fun W hW => by rw [hP3]; exact str_cells (itP n) (itE n) (as_ n) (str_items n) G W v2 x.2.2.1 (t2.below (bw (as_ n)) hG hW) (fun b h => Nat.lt_of_lt_of_le (hG b h) hW.size) (by simp only [List.length_append] at hz; omega))
 obtain ⟨P4,hP4⟩:=gX (hdE x.2.2.2.1)
 have C4:Hid (∀ (W:World),Below w.heap.size w W→Calls Tryz.prog 69 #[.agg #[h0,h1,h2,h3,h4]] W (StrE W P4)):=qH (fun W hW => by rw [hP4]; exact str_head G W _ x.2.2.2.1 (Rp.below aE t3 hG hW) (fun b h => Nat.lt_of_lt_of_le (hG b h) hW.size) (by simp only [List.length_append] at hz; omega))
 obtain ⟨P5,hP5⟩:=gX (stgE x.2.2.2.2)
 have C5:Hid (∀ (W:World),Below w.heap.size w W→Calls Tryz.prog 86 #[.agg #[s0,s1,s2,s3]] W (StrE W P5)):=qH (fun W hW => by rw [hP5]; exact str_settings G W _ x.2.2.2.2 (Rp.below bq t4 hG hW) (fun b h => Nat.lt_of_lt_of_le (hG b h) hW.size) (by simp only [List.length_append] at hz; omega))
 rw [<- hP1,<- hP2,<- hP3,<- hP4,<- hP5] at hz hRR
 obtain ⟨Q1,hQ1⟩:=gX (P1++P2)
 have ka2:=addL P1 P2 (by simp only [List.length_append] at hz ⊢; omega)
 rw [<- hQ1] at ka2
 obtain ⟨Q2,hQ2⟩:=gX (Q1++P3)
 have ka3:=addL Q1 P3 (by rw [hQ1]; simp only [List.length_append] at hz ⊢; omega)
 rw [<- hQ2] at ka3
 obtain ⟨Q3,hQ3⟩:=gX (Q2++P4)
 have ka4:=addL Q2 P4 (by rw [hQ2,hQ1]; simp only [List.length_append] at hz ⊢; omega)
 rw [<- hQ3] at ka4
 obtain ⟨Q4,hQ4⟩:=gX (Q3++P5)
 have ka5:=addL Q3 P5 (by rw [hQ3,hQ2,hQ1]; simp only [List.length_append] at hz ⊢; omega)
 rw [<- hQ4] at ka5
 rw [<- hQ1,<- hQ2,<- hQ3,<- hQ4] at hRR
 have HRR:=qH hRR
 clear hz hRR hP1 hP2 hP3 hP4 hP5 hQ1 hQ2 hQ3 hQ4
 have hX:(w.alloc (.cells #[v0,v1,v2,h0,h1,h2,h3,h4,s0,s1,s2,s3] 75)).drew.heap[w.heap.size]? = some (.cells #[v0,v1,v2,h0,h1,h2,h3,h4,s0,s1,s2,s3] 75 (0,0)):=heap_alloc_new w _
 have HB:Hid (Below w.heap.size w (w.alloc (.cells #[v0,v1,v2,h0,h1,h2,h3,h4,s0,s1,s2,s3] 75)).drew):=qH ((Below.refl _ _).alloc (Nat.le_refl _) _).drew
 go_enter Tryz.func89,Tryz.ntmps89
 go_upto_region 1 with fail
 obtain ⟨wy,hwy⟩:=gX ((w.alloc (.cells #[v0,v1,v2,h0,h1,h2,h3,h4,s0,s1,s2,s3] 75)))
 rw [<- hwy] at hX HB ⊢
 clear hwy
 refine ak (S:=fun w' => w'.heap[w.heap.size]? = some (.cells #[v0,v1,v2,h0,h1,h2,h3,h4,s0,s1,s2,s3] 75 (0,0))) [(true,0),(true,1),(true,3),(true,4),(true,7),(true,8),(true,11),(true,12),(true,15),(true,16),(false,2),(false,5),(true,6),(false,9),(true,10),(false,13),(true,14),(false,17),(true,18),(true,19)] (by kernel_rfl) (by kernel_rfl) hX ?_
 simp only [aB,List.getElem?_cons_succ,List.getElem?_cons_zero]
 refine sq2p (w.heap.size) 0 ?_
 refine sq2 (v0) ?_ (fun w' hS => by have q:=aa hS 0; go_simp)
 refine sq2p (w.heap.size) 1 ?_
 refine sq2 (v1) ?_ (fun w' hS => by have q:=aa hS 1; go_simp)
 refine sq2p (w.heap.size) 2 ?_
 refine sq2 (v2) ?_ (fun w' hS => by have q:=aa hS 2; go_simp)
 refine sq2p (w.heap.size) 3 ?_
 refine sq2 (.agg #[h0,h1,h2,h3,h4]) ?_ (fun w' hS => by have q0:=aa hS 3; have q1:=aa hS 4; have q2:=aa hS 5; have q3:=aa hS 6; have q4:=aa hS 7; go_simp)
 refine sq2p (w.heap.size) 8 ?_
 refine sq2 (.agg #[s0,s1,s2,s3]) ?_ (fun w' hS => by have q0:=aa hS 8; have q1:=aa hS 9; have q2:=aa hS 10; have q3:=aa hS 11; go_simp)
 refine ad 25 #[v0] (by go_simp) ?_
 refine Calls.mono (C1.out _ HB.out) ?_
 rintro e wx1 ⟨rfl,hb1⟩
 replace hX:=(hb1.block _ (ac hX)).trans hX
 replace HB:=qH (HB.out.trans (hb1.mono HB.out.size))
 clear hb1
 refine ⟨_,rfl,hX,?_⟩
 simp only [Act.put,PutA,PutZ,PutS]
 refine ad 70 #[v1] (by go_simp) ?_
 refine Calls.mono (C2.out _ HB.out) ?_
 rintro e wx2 ⟨rfl,hb2⟩
 replace hX:=(hb2.block _ (ac hX)).trans hX
 replace HB:=qH (HB.out.trans (hb2.mono HB.out.size))
 clear hb2
 refine ⟨_,rfl,hX,?_⟩
 simp only [Act.put,PutA,PutZ,PutS]
 refine sq2 (.string (mkB (Q1))) ?_
 refine ad 85 #[v2] (by go_simp) ?_
 refine Calls.mono (C3.out _ HB.out) ?_
 rintro e wx3 ⟨rfl,hb3⟩
 replace hX:=(hb3.block _ (ac hX)).trans hX
 replace HB:=qH (HB.out.trans (hb3.mono HB.out.size))
 clear hb3
 refine ⟨_,rfl,hX,?_⟩
 simp only [Act.put,PutA,PutZ,PutS]
 refine sq2 (.string (mkB (Q2))) ?_
 refine ad 69 #[.agg #[h0,h1,h2,h3,h4]] (by go_simp) ?_
 refine Calls.mono (C4.out _ HB.out) ?_
 rintro e wx4 ⟨rfl,hb4⟩
 replace hX:=(hb4.block _ (ac hX)).trans hX
 replace HB:=qH (HB.out.trans (hb4.mono HB.out.size))
 clear hb4
 refine ⟨_,rfl,hX,?_⟩
 simp only [Act.put,PutA,PutZ,PutS]
 refine sq2 (.string (mkB (Q3))) ?_
 refine ad 86 #[.agg #[s0,s1,s2,s3]] (by go_simp) ?_
 refine Calls.mono (C5.out _ HB.out) ?_
 rintro e wx5 ⟨rfl,hb5⟩
 replace hX:=(hb5.block _ (ac hX)).trans hX
 replace HB:=qH (HB.out.trans (hb5.mono HB.out.size))
 clear hb5
 refine ⟨_,rfl,hX,?_⟩
 simp only [Act.put,PutA,PutZ,PutS]
 refine sq2 (.string (mkB (Q4))) ?_
 refine sq2 (.string (mkB (Q4))) ?_
 refine ae ?_
 clear hX ka2 ka3 ka4 ka5
 go_wp2_with fail
 go_ret
 exact ⟨by rw [HRR.out]; rfl,HB.out⟩
theorem pc_len {n:Nat} {w:World} {G:Nat→Prop} {vs:List Value} {x:Pc n} (h:pcP n w G vs x):vs.length = 12:=by
 obtain ⟨v0,v1,v2,h0,h1,h2,h3,h4,s0,s1,s2,s3,rfl,_⟩:=h
 rfl
theorem str_splice (n:Nat) (G:Nat→Prop) (w:World) (vs:List Value) (x:Sp n) (hR:spP n w G vs x) (hG:∀ b,G b→b < w.heap.size) (hz:(spE n x).length≤1099511627776):Calls Tryz.prog 36 #[.agg vs.toArray] w (StrE w (spE n x)):=by
 obtain ⟨va,vb,rfl,hla,⟨hi1,hi2,hi3,hi4⟩,ta,tb⟩:=hR
 obtain ⟨a0,a1,a2,a3,a4,a5,a6,a7,a8,a9,a10,a11,rfl⟩:=len_12 hla
 obtain ⟨b0,b1,b2,b3,b4,b5,b6,b7,b8,b9,b10,b11,rfl⟩:=len_12 (pc_len tb)
 have hE0:spE n x = [x.1,x.2.1,x.2.2.1,x.2.2.2.1].flatMap encN++pcE n x.2.2.2.2.1++pcE n x.2.2.2.2.2:=by
  simp [spE,seqE]
 rw [hE0] at hz ⊢
 clear hE0
 obtain ⟨RR,hRR⟩:=gX ([x.1,x.2.1,x.2.2.1,x.2.2.2.1].flatMap encN++pcE n x.2.2.2.2.1++pcE n x.2.2.2.2.2)
 rw [<- hRR]
 obtain ⟨P1,hP1⟩:=gX ([x.1,x.2.1,x.2.2.1,x.2.2.2.1].flatMap encN)
 have C1:Hid (∀ (W:World) (g:Nat),(∀ (j:Nat) (y:Int),[x.1,x.2.1,x.2.2.1,x.2.2.2.1][j]? = some y→W.cell? ⟨g,j,none⟩ = some (.int .i64 y))→Calls Tryz.prog 67 #[.slice (some ⟨g,0,none⟩) 4 4] W (StrE W P1)):=qH (fun W g h => by rw [hP1]; exact nums67 [x.1,x.2.1,x.2.2.1,x.2.2.2.1] g 4 W h (by simp only [List.mem_cons,List.not_mem_nil,or_false]; rintro m (rfl | rfl | rfl | rfl) <;> assumption) (by simp))
 obtain ⟨P2,hP2⟩:=gX (pcE n x.2.2.2.2.1)
 have C2:Hid (∀ (W:World),Below w.heap.size w W→Calls Tryz.prog 89 #[.agg #[a0,a1,a2,a3,a4,a5,a6,a7,a8,a9,a10,a11]] W (StrE W P2)):=qH (fun W hW => by rw [hP2]; exact str_piece n G W _ x.2.2.2.2.1 (Rp.below (stb_pc n) ta hG hW) (fun b h => Nat.lt_of_lt_of_le (hG b h) hW.size) (by simp only [List.length_append] at hz; omega))
 obtain ⟨P3,hP3⟩:=gX (pcE n x.2.2.2.2.2)
 have C3:Hid (∀ (W:World),Below w.heap.size w W→Calls Tryz.prog 89 #[.agg #[b0,b1,b2,b3,b4,b5,b6,b7,b8,b9,b10,b11]] W (StrE W P3)):=qH (fun W hW => by rw [hP3]; exact str_piece n G W _ x.2.2.2.2.2 (Rp.below (stb_pc n) tb hG hW) (fun b h => Nat.lt_of_lt_of_le (hG b h) hW.size) (by simp only [List.length_append] at hz; omega))
 rw [<- hP1,<- hP2,<- hP3] at hz hRR
 obtain ⟨Q1,hQ1⟩:=gX (P1++P2)
 have ka2:=addL P1 P2 (by simp only [List.length_append] at hz ⊢; omega)
 rw [<- hQ1] at ka2
 obtain ⟨Q2,hQ2⟩:=gX (Q1++P3)
 have ka3:=addL Q1 P3 (by rw [hQ1]; simp only [List.length_append] at hz ⊢; omega)
 rw [<- hQ2] at ka3
 rw [<- hQ1,<- hQ2] at hRR
 have HRR:=qH hRR
 clear hz hRR hP1 hP2 hP3 hQ1 hQ2
 have hX:(w.alloc (.cells #[.int .i64 x.1,.int .i64 x.2.1,.int .i64 x.2.2.1,.int .i64 x.2.2.2.1,a0,a1,a2,a3,a4,a5,a6,a7,a8,a9,a10,a11,b0,b1,b2,b3,b4,b5,b6,b7,b8,b9,b10,b11] 77)).drew.heap[w.heap.size]? = some (.cells #[.int .i64 x.1,.int .i64 x.2.1,.int .i64 x.2.2.1,.int .i64 x.2.2.2.1,a0,a1,a2,a3,a4,a5,a6,a7,a8,a9,a10,a11,b0,b1,b2,b3,b4,b5,b6,b7,b8,b9,b10,b11] 77 (0,0)):=heap_alloc_new w _
 have HB:Hid (Below w.heap.size w (w.alloc (.cells #[.int .i64 x.1,.int .i64 x.2.1,.int .i64 x.2.2.1,.int .i64 x.2.2.2.1,a0,a1,a2,a3,a4,a5,a6,a7,a8,a9,a10,a11,b0,b1,b2,b3,b4,b5,b6,b7,b8,b9,b10,b11] 77)).drew):=qH ((Below.refl _ _).alloc (Nat.le_refl _) _).drew
 go_enter Tryz.func36,Tryz.ntmps36
 go_upto_region 1 with fail
 obtain ⟨wy,hwy⟩:=gX ((w.alloc (.cells #[.int .i64 x.1,.int .i64 x.2.1,.int .i64 x.2.2.1,.int .i64 x.2.2.2.1,a0,a1,a2,a3,a4,a5,a6,a7,a8,a9,a10,a11,b0,b1,b2,b3,b4,b5,b6,b7,b8,b9,b10,b11] 77)))
 rw [<- hwy] at hX HB ⊢
 clear hwy
 refine ak (S:=fun w' => w'.heap[w.heap.size]? = some (.cells #[.int .i64 x.1,.int .i64 x.2.1,.int .i64 x.2.2.1,.int .i64 x.2.2.2.1,a0,a1,a2,a3,a4,a5,a6,a7,a8,a9,a10,a11,b0,b1,b2,b3,b4,b5,b6,b7,b8,b9,b10,b11] 77 (0,0))) [(true,0),(true,1),(true,2),(true,3),(true,4),(true,5),(true,6),(true,7),(true,10),(true,11),(true,14),(true,15),(false,8),(false,9),(false,12),(true,13),(false,16),(true,17),(true,18)] (by kernel_rfl) (by kernel_rfl) hX ?_
 simp only [aB,List.getElem?_cons_succ,List.getElem?_cons_zero]
 refine sq2p (w.heap.size) 0 ?_
 refine sq2i (x.1) ?_ (fun w' hS => by have q:=aa hS 0; go_simp)
 refine sq2p (w.heap.size) 1 ?_
 refine sq2i (x.2.1) ?_ (fun w' hS => by have q:=aa hS 1; go_simp)
 refine sq2p (w.heap.size) 2 ?_
 refine sq2i (x.2.2.1) ?_ (fun w' hS => by have q:=aa hS 2; go_simp)
 refine sq2p (w.heap.size) 3 ?_
 refine sq2i (x.2.2.2.1) ?_ (fun w' hS => by have q:=aa hS 3; go_simp)
 refine sq2p (w.heap.size) 4 ?_
 refine sq2 (.agg #[a0,a1,a2,a3,a4,a5,a6,a7,a8,a9,a10,a11]) ?_ (fun w' hS => by have q0:=aa hS 4; have q1:=aa hS 5; have q2:=aa hS 6; have q3:=aa hS 7; have q4:=aa hS 8; have q5:=aa hS 9; have q6:=aa hS 10; have q7:=aa hS 11; have q8:=aa hS 12; have q9:=aa hS 13; have q10:=aa hS 14; have q11:=aa hS 15; go_simp)
 refine sq2p (w.heap.size) 16 ?_
 refine sq2 (.agg #[b0,b1,b2,b3,b4,b5,b6,b7,b8,b9,b10,b11]) ?_ (fun w' hS => by have q0:=aa hS 16; have q1:=aa hS 17; have q2:=aa hS 18; have q3:=aa hS 19; have q4:=aa hS 20; have q5:=aa hS 21; have q6:=aa hS 22; have q7:=aa hS 23; have q8:=aa hS 24; have q9:=aa hS 25; have q10:=aa hS 26; have q11:=aa hS 27; go_simp)
 refine av (.slice (some ⟨wy.drew.heap.size,0,none⟩) 4 4) (wy.drew.alloc (.cells #[.int .i64 x.1,.int .i64 x.2.1,.int .i64 x.2.2.1,.int .i64 x.2.2.2.1] 3)) (by go_simp) ?_ ?_
 ·exact (Below.heap_alloc _ _ _ (ac hX)).trans hX
 have hq1:wy.drew.heap.size < (wy.drew.alloc (.cells #[.int .i64 x.1,.int .i64 x.2.1,.int .i64 x.2.2.1,.int .i64 x.2.2.2.1] 3)).heap.size:=by simp
 have hn1:(wy.drew.alloc (.cells #[.int .i64 x.1,.int .i64 x.2.1,.int .i64 x.2.2.1,.int .i64 x.2.2.2.1] 3)).heap[wy.drew.heap.size]? = some (.cells #[.int .i64 x.1,.int .i64 x.2.1,.int .i64 x.2.2.1,.int .i64 x.2.2.2.1] 3 (0,0)):=heap_alloc_new _ _
 have ha1:Below wy.drew.heap.size wy.drew (wy.drew.alloc (.cells #[.int .i64 x.1,.int .i64 x.2.1,.int .i64 x.2.2.1,.int .i64 x.2.2.2.1] 3)):=(Below.refl _ _).alloc (Nat.le_refl _) _
 obtain ⟨wb1,hwb1⟩:=gX (wy.drew.alloc (.cells #[.int .i64 x.1,.int .i64 x.2.1,.int .i64 x.2.2.1,.int .i64 x.2.2.2.1] 3))
 obtain ⟨g1,hg1⟩:=gX (wy.drew.heap.size)
 rw [<- hwb1] at hq1 hn1 ha1 ⊢
 rw [<- hg1] at hn1 ⊢
 replace hX:=(ha1.block _ (ac hX)).trans hX
 replace HB:=qH (HB.out.trans (ha1.mono HB.out.size))
 clear hwb1 hg1 ha1 hq1
 simp only [Act.put,PutA,PutZ,PutS]
 refine ad 67 #[.slice (some ⟨g1,0,none⟩) 4 4] (by go_simp) ?_
 refine Calls.mono (C1.out _ g1 (fun j y hj => (aa hn1 j).trans (by rw [List.getElem?_toArray]; exact bk hj))) ?_
 rintro e wx1 ⟨rfl,hb1⟩
 replace hX:=(hb1.block _ (ac hX)).trans hX
 clear hn1
 replace HB:=qH (HB.out.trans (hb1.mono HB.out.size))
 clear hb1
 refine ⟨_,rfl,hX,?_⟩
 simp only [Act.put,PutA,PutZ,PutS]
 refine ad 89 #[.agg #[a0,a1,a2,a3,a4,a5,a6,a7,a8,a9,a10,a11]] (by go_simp) ?_
 refine Calls.mono (C2.out _ HB.out) ?_
 rintro e wx2 ⟨rfl,hb2⟩
 replace hX:=(hb2.block _ (ac hX)).trans hX
 replace HB:=qH (HB.out.trans (hb2.mono HB.out.size))
 clear hb2
 refine ⟨_,rfl,hX,?_⟩
 simp only [Act.put,PutA,PutZ,PutS]
 refine sq2 (.string (mkB (Q1))) ?_
 refine ad 89 #[.agg #[b0,b1,b2,b3,b4,b5,b6,b7,b8,b9,b10,b11]] (by go_simp) ?_
 refine Calls.mono (C3.out _ HB.out) ?_
 rintro e wx3 ⟨rfl,hb3⟩
 replace hX:=(hb3.block _ (ac hX)).trans hX
 replace HB:=qH (HB.out.trans (hb3.mono HB.out.size))
 clear hb3
 refine ⟨_,rfl,hX,?_⟩
 simp only [Act.put,PutA,PutZ,PutS]
 refine sq2 (.string (mkB (Q2))) ?_
 refine sq2 (.string (mkB (Q2))) ?_
 refine ae ?_
 clear hX ka2 ka3
 go_wp2_with fail
 go_ret
 exact ⟨by rw [HRR.out]; rfl,HB.out⟩
end Go.Proofs.YtmhhcfceikcfbaaGreat
namespace Go.Proofs.YtmhhcfceikcfbaaGreat
open Go.RowKit
set_option maxRecDepth 100000
set_option maxHeartbeats 4000000
theorem sp_len {n:Nat} {w:World} {G:Nat→Prop} {vs:List Value} {x:Sp n} (h:spP n w G vs x):vs.length = 28:=by
 obtain ⟨a,b,rfl,hl,_,_,hb⟩:=h
 have:=pc_len hb
 simp [hl,this]
end Go.Proofs.YtmhhcfceikcfbaaGreat
namespace Go.Proofs.YtmhhcfceikcfbaaGreat
open Go.RowKit Go.WideShapes
set_option maxRecDepth 100000
set_option maxHeartbeats 4000000
def Dom {α:Type} (R:Rp α) (D:α→Prop):Prop:=∀ w G vs x,R w G vs x→D x
theorem bB {α:Type} {R:Rp α} {D:α→Prop} (h:Dom R D) {sz:Nat} {w:World} {G:Nat→Prop} {v:Value} {l:List α} (hv:Slv R sz w G v l):Li D l:=by
 obtain ⟨A,c,rfl,h1,h2⟩:=hv.shape
 unfold maxLen at h2
 refine ⟨by omega,fun x hx => ?_⟩
 obtain ⟨i,hi⟩:=List.mem_iff_getElem?.1 hx
 obtain ⟨_,_,vs,_,_,_,_,hR,_⟩:=hv.at i x hi
 exact h _ _ _ _ hR
theorem dom_two:Dom twoP twoD:=fun _ _ _ _ h => h.2
theorem dom_lay:Dom layP layD:=fun _ _ _ _ h => h.2
theorem dom_hd:Dom hdP hdD:=by
 rintro w G vs x ⟨_,_,_,_,a,b,h1,h2,h3⟩
 exact ⟨bB dom_two h1,a,b,bB dom_two h2,bB dom_lay h3⟩
theorem dom_lvl:Dom lvlP lvlD:=fun _ _ _ _ h => h.2
theorem dom_sty:Dom styP styD:=by
 rintro w G vs x ⟨_,_,⟨a,b,c,d,e⟩,h⟩
 exact ⟨a,b,c,d,e,bB dom_two h⟩
theorem dom_lst:Dom lstP lstD:=by
 rintro w G vs x ⟨_,_,a,h⟩
 exact ⟨a,bB dom_lvl h⟩
theorem dom_cmt:Dom cmtP cmtD:=fun _ _ _ _ h => h.2
theorem dom_vr:Dom vrP vrD:=fun _ _ _ _ h => h.2
theorem dom_stg:Dom stgP stgD:=by
 rintro w G vs x ⟨_,_,_,_,_,h1,h2,h3,h4⟩
 exact ⟨bB dom_sty h1,bB dom_lst h2,bB dom_cmt h3,bB dom_vr h4⟩
theorem dom_ce {α:Type} {R:Rp α} {D:α→Prop} (h:Dom R D):Dom (ceP R) (ceD D):=by
 rintro w G vs x ⟨_,_,_,_,_,_,_,a,b,c⟩
 exact ⟨a,dom_hd _ _ _ _ b,bB h c⟩
theorem dom_rw {α:Type} {R:Rp α} {D:α→Prop} (h:Dom R D):Dom (rwP R) (rwD D):=by
 rintro w G vs x ⟨_,_,_,_,_,_,_,b,c⟩
 exact ⟨dom_hd _ _ _ _ b,bB (dom_ce h) c⟩
theorem dom_is {α:Type} {R:Rp α} {D:α→Prop} (h:Dom R D):Dom (isP R) (isD D):=by
 rintro w G vs x ⟨_,_,_,_,_,_,_,_,⟨a,b,c,d⟩,e,f,g⟩
 exact ⟨a,b,c,d,dom_hd _ _ _ _ e,bB h f,bB (dom_rw h) g⟩
theorem dom_it:∀ n,Dom (itP n) (itD n)
 | 0 => fun _ _ _ x _ => Empty.elim x
 | n + 1 => dom_is (dom_it n)
def pcD (n:Nat) (x:Pc n):Prop:=Li (itD n) x.1∧Li (rwD (itD n)) x.2.1∧Li (ceD (itD n)) x.2.2.1∧hdD x.2.2.2.1∧stgD x.2.2.2.2
theorem dom_pc (n:Nat):Dom (pcP n) (pcD n):=by
 rintro w G vs x ⟨_,_,_,_,_,_,_,_,_,_,_,_,_,h1,h2,h3,h4,h5⟩
 exact ⟨bB (dom_it n) h1,bB (dom_rw (dom_it n)) h2,bB (dom_ce (dom_it n)) h3,dom_hd _ _ _ _ h4,dom_stg _ _ _ _ h5⟩
theorem fit_pcD (n:Nat):Fit (pcE n) (pcR n) (pcD n):=(fit_its n).seq ((((fit_it n).rw (itE_ne n)).list rwE_ne).seq ((((fit_it n).ce (itE_ne n)).list ceE_ne).seq (fit_hd.seq fit_stg)))
def spD (n:Nat) (x:Sp n):Prop:=I64 x.1∧I64 x.2.1∧I64 x.2.2.1∧I64 x.2.2.2.1∧pcD n x.2.2.2.2.1∧pcD n x.2.2.2.2.2
theorem dom_sp (n:Nat):Dom (spP n) (spD n):=by
 rintro w G vs x ⟨_,_,_,_,⟨a,b,c,d⟩,h1,h2⟩
 exact ⟨a,b,c,d,dom_pc n _ _ _ _ h1,dom_pc n _ _ _ _ h2⟩
theorem fit_spD (n:Nat):Fit (spE n) (spR n) (spD n):=fitN.seq (fitN.seq (fitN.seq (fitN.seq ((fit_pcD n).seq (fit_pcD n)))))
section
variable {H:Type} {enc:TypeId × Value→H}
set_option maxRecDepth 100000
theorem splice_of_arg {W:World} {r:Reach} {b0:Nat} {v:Value} {d:DataW H} {p:List MemPlace} (hv:Value.okWide Tryz.prog W r b0 77 v) (h:DataW.Trod enc Tryz.prog W 0 (fun _ => true) true 77 v d p) (hb:Rows.uptoBulk d≤1048576) (m:Nat) :
  ∃ n,m≤n∧∃ (vs:List Value) (x:Sp n),v = .agg vs.toArray∧vs.length = 28∧spP n W (fun b => b < W.heap.size) vs x∧(spE n x).length≤10485760:=by
 obtain ⟨cs,rfl,_⟩:=okWide_struct Tryz.underlying77 hv
 obtain ⟨fuel,hf⟩:=h
 obtain ⟨h1,x,h2,h3⟩:=rdA_77 (enc:=enc) (w:=W) (max fuel m) fuel _ _ (by omega) hf hb
 exact ⟨max fuel m,by omega,cs.toList,x,by simp,h1,h2,by simp only at h3; omega⟩
end
end Go.Proofs.YtmhhcfceikcfbaaGreat
namespace Go.Proofs.YtmhhcfceikcfbaaGreat
open Go.RowKit
set_option maxRecDepth 100000
set_option maxHeartbeats 4000000
def chkD {n:Nat} (x:Dc n):Int:=chkT (stgT styT tmpT) x
theorem check_doc (n:Nat) (G:Nat→Prop) (w:World) (vs:List Value) (x:Dc n) (hX:dcP n w G vs x) (hG:∀ b,G b→b < w.heap.size) (hz:(dcE n x).length≤1048576000):Calls Tryz.prog 20 #[.agg vs.toArray] w (RetI (chkD x) w) :=
 Check20 _ (settings47 styT sty98 tmpT tmp205) n G w vs x hX hG hz
def EncR {n:Nat} (x:Dc n) (w:World) (e:Ending) (w':World):Prop:=e = .returned (.tuple #[.string (if chkD x = 0 then mkB (aW++dcE n x) else ⟨#[]⟩),.int .i64 (chkD x)])∧Below w.heap.size w w'
theorem size49:(Tryz.prog.info? 49).map (·.size) = some 11:=by kernel_rfl
theorem encode21 (n:Nat) (G:Nat→Prop) (w:World) (vs:List Value) (x:Dc n) (hv:dcP n w G vs x) (hG:∀ b,G b→b < w.heap.size) (hz:(dcE n x).length≤1048576000):Calls Tryz.prog 21 #[.agg vs.toArray] w (EncR x w):=by
 by_cases hc:chkD x = 0
 case pos =>
  have C:=qH (check_doc n G (w.alloc (.cells vs.toArray 49)) vs x (Rp.below (stb_dc n) hv hG (ah w _)) (fun b hb => Nat.lt_of_lt_of_le (hG b hb) (ah w _).size) hz)
  rw [hc] at C
  have h:=EncDoc21 n G w vs x hv hG (by have:aW.length = 4:=rfl; rw [List.length_append]; omega) C.out
  unfold EncR
  rw [hc,if_pos rfl]
  exact h
 unfold EncR
 rw [if_neg hc]
 obtain ⟨f0,h0,h1,h2,h3,h4,r0,s0,s1,s2,s3,rfl,A0,A1,A2,A3⟩:=hv
 have hR:dcP n w G [f0,h0,h1,h2,h3,h4,r0,s0,s1,s2,s3] x:=⟨_,_,_,_,_,_,_,_,_,_,_,rfl,A0,A1,A2,A3⟩
 obtain ⟨E,hE⟩:=gX (chkD x)
 obtain ⟨W,hW⟩:=gX (w.alloc (.cells #[f0,h0,h1,h2,h3,h4,r0,s0,s1,s2,s3] 49))
 have hb:W.heap[w.heap.size]? = some (.cells #[f0,h0,h1,h2,h3,h4,r0,s0,s1,s2,s3] 49 (0,0)):=by rw [hW]; exact heap_alloc_new w _
 have hB:Below w.heap.size w W:=by rw [hW]; exact ah w _
 have C:=qH (check_doc n G W _ x (Rp.below (stb_dc n) hR hG hB) (fun b hb => Nat.lt_of_lt_of_le (hG b hb) hB.size) hz)
 rw [<- hE] at C hc ⊢
 obtain ⟨N,hN⟩:=gX (w.heap.size)
 rw [<- hN] at hb
 have HW:=qH hW
 have HN:=qH hN
 have HB:=qH hB
 have HC:=qH hc
 have f1:(E == 0) = false:=by rw [beq_eq_false_iff_ne]; exact hc
 have f2:(E != 0) = true:=by simp [bne,f1]
 clear A0 A1 A2 A3 hR hE hW hN hB hc hz hG
 go_enter Tryz.func21,Tryz.ntmps21
 go_upto_region 1 with fail
 rw [<- HW.out,<- HN.out]
 clear HW
 refine af (by rfl) ?_
 simp only [List.map]
 refine aH 49 _ rfl N 49 #[f0,h0,h1,h2,h3,h4,r0,s0,s1,s2,s3] _ rfl hb Tryz.underlying49 rfl size49 trivial ?_
 simp only [Act.put,PutA,PutZ,PutS]
 refine ad 20 #[.agg #[f0,h0,h1,h2,h3,h4,r0,s0,s1,s2,s3]] (by go_simp) ?_
 refine C.out.mono ?_
 rintro e w1 ⟨rfl,hb1⟩
 have HB1:=qH (HB.out.trans (hb1.mono HB.out.size))
 clear C hb1 hb HB
 refine ⟨_,rfl,trivial,?_⟩
 simp only [Act.put,PutA,PutZ,PutS]
 refine sq1i E ?_
 refine ae ?_
 go_wp2_with fail
 go_ret2
 exact ⟨rfl,HB1.out⟩
end Go.Proofs.YtmhhcfceikcfbaaGreat
namespace Go.Proofs.YtmhhcfceikcfbaaGreat
open Go.RowKit Go.WideShapes
set_option maxRecDepth 100000
set_option maxHeartbeats 4000000
theorem cc141:Tryz.prog.cellsOf 141 = 3:=by kernel_rfl
theorem cc49:Tryz.prog.cellsOf 49 = 11:=by kernel_rfl
section
variable {H:Type} {enc:TypeId × Value→H} {w:World}
theorem rdA_141 (f:Nat):RdA enc w 141 3 revP revE (f + 1):=by
 intro fuel cs y hf hy hb
 obtain ⟨xs,n,rfl,rfl,hl,hlen,hg⟩:=DataW.trod_struct Tryz.underlying141 hy
 rw [cc141] at hl
 obtain ⟨c0,c1,c2,rfl⟩:∃ c0 c1 c2,cs = [c0,c1,c2]:=by
  match cs,hl with
  | [c0,c1,c2],_ => exact ⟨_,_,_,rfl⟩
 obtain ⟨y0,y1,y2,rfl⟩:∃ y0 y1 y2,xs = [y0,y1,y2]:=by
  match xs,hlen with
  | [y0,y1,y2],_ => exact ⟨_,_,_,rfl⟩
 simp only [List.map_cons,List.map_nil,Rows.uptoBulk,Rows.uptoBulkAll] at hb ⊢
 have h0:DataW.trod enc Tryz.prog w 0 (fun _ => true) true n 3 (List.take (Tryz.prog.cellsOf 3) (List.drop 0 [c0,c1,c2])) = some y0:=hg 0 _ rfl
 rw [cc3] at h0
 obtain ⟨_,x0,r0,b0⟩:=(aT n) n [c0] y0 (by omega) h0 (by omega)
 have h1:DataW.trod enc Tryz.prog w 0 (fun _ => true) true n 9 (List.take (Tryz.prog.cellsOf 9) (List.drop 1 [c0,c1,c2])) = some y1:=hg 1 _ rfl
 rw [cc9] at h1
 obtain ⟨_,x1,r1,b1⟩:=(rdA_str n) n [c1] y1 (by omega) h1 (by omega)
 have h2:DataW.trod enc Tryz.prog w 0 (fun _ => true) true n 3 (List.take (Tryz.prog.cellsOf 3) (List.drop 2 [c0,c1,c2])) = some y2:=hg 2 _ rfl
 rw [cc3] at h2
 obtain ⟨_,x2,r2,b2⟩:=(aT n) n [c2] y2 (by omega) h2 (by omega)
 obtain ⟨q0,i0⟩:=r0
 injection q0 with q0 _
 obtain ⟨q1,i1⟩:=r1
 injection q1 with q1 _
 obtain ⟨q2,i2⟩:=r2
 injection q2 with q2 _
 clear hg hl hlen hy h0 h1 h2
 subst q0
 subst q1
 subst q2
 refine ⟨rfl,(x0,x1,x2),⟨rfl,i0,i1,i2⟩,?_⟩
 simp only [revE,seqE,List.length_append] at *
 omega
theorem rdA_41 (f:Nat):RdA enc w 41 1 (LsP revP 3) (ai revE) f:=bg Tryz.underlying41 cc141 (by decide) ((rdA_141 f).le (Nat.le_succ _))
theorem rdA_49 (f:Nat):RdA enc w 49 11 (dcP f) (dcE f) (f + 1):=by
 intro fuel cs y hf hy hb
 obtain ⟨xs,n,rfl,rfl,hl,hlen,hg⟩:=DataW.trod_struct Tryz.underlying49 hy
 rw [cc49] at hl
 obtain ⟨c0,c1,c2,c3,c4,c5,c6,c7,c8,c9,c10,rfl⟩:∃ c0 c1 c2 c3 c4 c5 c6 c7 c8 c9 c10,cs = [c0,c1,c2,c3,c4,c5,c6,c7,c8,c9,c10]:=by
  match cs,hl with
  | [c0,c1,c2,c3,c4,c5,c6,c7,c8,c9,c10],_ => exact ⟨_,_,_,_,_,_,_,_,_,_,_,rfl⟩
 obtain ⟨y0,y1,y2,y3,rfl⟩:∃ y0 y1 y2 y3,xs = [y0,y1,y2,y3]:=by
  match xs,hlen with
  | [y0,y1,y2,y3],_ => exact ⟨_,_,_,_,rfl⟩
 simp only [List.map_cons,List.map_nil,Rows.uptoBulk,Rows.uptoBulkAll] at hb ⊢
 have h0:DataW.trod enc Tryz.prog w 0 (fun _ => true) true n 33 (List.take (Tryz.prog.cellsOf 33) (List.drop 0 [c0,c1,c2,c3,c4,c5,c6,c7,c8,c9,c10])) = some y0:=hg 0 _ rfl
 rw [cc33] at h0
 obtain ⟨_,x0,r0,b0⟩:=((rdA_33n f).le (show n≤f by omega)) n [c0] y0 (by omega) h0 (by omega)
 have h1:DataW.trod enc Tryz.prog w 0 (fun _ => true) true n 40 (List.take (Tryz.prog.cellsOf 40) (List.drop 1 [c0,c1,c2,c3,c4,c5,c6,c7,c8,c9,c10])) = some y1:=hg 1 _ rfl
 rw [cc40] at h1
 obtain ⟨_,x1,r1,b1⟩:=((rdA_40 n).le (Nat.le_succ _)) n [c1,c2,c3,c4,c5] y1 (by omega) h1 (by omega)
 have h2:DataW.trod enc Tryz.prog w 0 (fun _ => true) true n 41 (List.take (Tryz.prog.cellsOf 41) (List.drop 6 [c0,c1,c2,c3,c4,c5,c6,c7,c8,c9,c10])) = some y2:=hg 2 _ rfl
 rw [cc41] at h2
 obtain ⟨_,x2,r2,b2⟩:=(rdA_41 n) n [c6] y2 (by omega) h2 (by omega)
 have h3:DataW.trod enc Tryz.prog w 0 (fun _ => true) true n 47 (List.take (Tryz.prog.cellsOf 47) (List.drop 7 [c0,c1,c2,c3,c4,c5,c6,c7,c8,c9,c10])) = some y3:=hg 3 _ rfl
 rw [cc47] at h3
 obtain ⟨_,x3,r3,b3⟩:=((rdA_47 n).le (Nat.le_succ _)) n [c7,c8,c9,c10] y3 (by omega) h3 (by omega)
 obtain ⟨v0,q0,l0⟩:=r0
 injection q0 with q0 _
 obtain ⟨v2,q2,l2⟩:=r2
 injection q2 with q2 _
 clear hg hl hlen hy h0 h1 h2 h3
 subst q0
 subst q2
 refine ⟨rfl,(x0,x1,x2,x3),⟨_,_,_,_,_,_,_,_,_,_,_,rfl,l0,r1,l2,r3⟩,?_⟩
 simp only [dcE,seqE,List.length_append] at *
 omega
theorem revE_ne (x:Rev):revE x≠[]:=by
 intro h
 have h2:=congrArg List.length h
 have h3:=List.length_pos_iff.2 (bI x.1)
 simp only [revE,seqE,List.length_append,List.length_nil] at h2
 omega
theorem dom_rev:Dom revP revD:=fun _ _ _ _ h => h.2
def dcD (n:Nat) (x:Dc n):Prop:=Li (itD n) x.1∧hdD x.2.1∧Li revD x.2.2.1∧stgD x.2.2.2
theorem dom_dc (n:Nat):Dom (dcP n) (dcD n):=by
 rintro w G vs x ⟨_,_,_,_,_,_,_,_,_,_,_,_,h1,h2,h3,h4⟩
 exact ⟨bB (dom_it n) h1,dom_hd _ _ _ _ h2,bB dom_rev h3,dom_stg _ _ _ _ h4⟩
theorem fit_dcD (n:Nat):Fit (dcE n) (dcR n) (dcD n):=(fit_its n).seq (fit_hd.seq ((fit_rev.list revE_ne).seq fit_stg))
theorem byt_dc (n:Nat):Byt (dcE n):=(byt_it n).list.seq (byt_hd.seq (byt_rev.list.seq byt_stg))
theorem doc_of_arg {W:World} {r:Reach} {b0:Nat} {v:Value} {d:DataW H} {p:List MemPlace} (hv:Value.okWide Tryz.prog W r b0 49 v) (h:DataW.Trod enc Tryz.prog W 0 (fun _ => true) true 49 v d p) (hb:Rows.uptoBulk d≤1048576) :
  ∃ m,∀ n,m≤n→∃ (vs:List Value) (x:Dc n),v = .agg vs.toArray∧vs.length = 11∧dcP n W (fun b => b < W.heap.size) vs x∧(dcE n x).length≤10485760:=by
 obtain ⟨cs,rfl,_⟩:=okWide_struct Tryz.underlying49 hv
 obtain ⟨fuel,hf⟩:=h
 refine ⟨fuel,fun n hn => ?_⟩
 obtain ⟨h1,x,h2,h3⟩:=rdA_49 (enc:=enc) (w:=W) n fuel _ _ (by omega) hf hb
 exact ⟨cs.toList,x,by simp,h1,h2,by simp only at h3; omega⟩
end
end Go.Proofs.YtmhhcfceikcfbaaGreat
