/- Walks: the writers of heads and settings. -/
import Derived.Test.YtmhhcfceikcfbaaGreatDcW6
namespace Go.Proofs.YtmhhcfceikcfbaaGreat
open Go.RowKit
set_option maxRecDepth 100000
set_option maxHeartbeats 4000000
theorem w_head (p B:Nat) (L:List Nat) (G:Nat→Prop) (w:World) (hs:List Value) (x:Hd) (hw:WrSB p B w L) (hG:∀ b,G b→b < B) (hB:B≤w.heap.size) (hR:hdP w G hs x) (hsz:(L++hdE x).length≤1099511627776) :
  Calls Tryz.prog 54 #[.pointer (some ⟨p,0,none⟩),.agg hs.toArray] w (WrE p B w (L++hdE x)):=by
 obtain ⟨pv,dv,lv,rfl,i0,i1,t0,t1,t2⟩:=hR
 obtain ⟨x0,x1,x2,x3,x4⟩:=x
 simp only at i0 i1 t0 t1 t2
 obtain ⟨A0,cp0,q0,_,_⟩:=t0.shape
 subst q0
 obtain ⟨A1,cp1,q1,_,_⟩:=t1.shape
 subst q1
 obtain ⟨A2,cp2,q2,_,_⟩:=t2.shape
 subst q2
 have hE:L++hdE (x0,x1,x2,x3,x4) = L++aj twoE x0++[x1,x2].flatMap encN++aj twoE x3++aj layE x4:=by simp only [hdE,seqE,List.append_assoc,List.flatMap_cons,List.flatMap_nil,List.append_nil]
 rw [hE] at hsz ⊢
 clear hE
 have hz2:(L++aj twoE x0++[x1,x2].flatMap encN++aj twoE x3).length≤1099511627776:=by
  have h9:=hsz
  rw [List.length_append] at h9
  omega
 have hz1:(L++aj twoE x0++[x1,x2].flatMap encN).length≤1099511627776:=by
  have h9:=hz2
  rw [List.length_append] at h9
  omega
 have hz0:(L++aj twoE x0).length≤1099511627776:=by
  have h9:=hz1
  rw [List.length_append] at h9
  omega
 obtain ⟨L1,hL1⟩:=gX (L++aj twoE x0)
 rw [<- hL1] at hz0 hz1 hz2 hsz ⊢
 obtain ⟨L2,hL2⟩:=gX (L1++[x1,x2].flatMap encN)
 rw [<- hL2] at hz1 hz2 hsz ⊢
 obtain ⟨L3,hL3⟩:=gX (L2++aj twoE x3)
 rw [<- hL3] at hz2 hsz ⊢
 obtain ⟨L4,hL4⟩:=gX (L3++aj layE x4)
 rw [<- hL4] at hsz ⊢
 have hp:=hw.lt
 have s0:WrSB p B ((w.alloc (.cells #[.pointer (some ⟨p,0,none⟩)] 131)).alloc (.cells #[.slice A0 x0.length cp0,.int .i64 x1,.int .i64 x2,.slice A1 x3.length cp1,.slice A2 x4.length cp2] 40)) L:=((hw.alloc _).alloc _)
 have k0:Kp p w ((w.alloc (.cells #[.pointer (some ⟨p,0,none⟩)] 131)).alloc (.cells #[.slice A0 x0.length cp0,.int .i64 x1,.int .i64 x2,.slice A1 x3.length cp1,.slice A2 x4.length cp2] 40)):=(((Kp.refl p w).alloc (by first | exact hp | (simp; omega)) _).alloc (by first | exact hp | (simp; omega)) _)
 have b0_0:Blk p w.heap.size [.pointer (some ⟨p,0,none⟩)] ((w.alloc (.cells #[.pointer (some ⟨p,0,none⟩)] 131)).alloc (.cells #[.slice A0 x0.length cp0,.int .i64 x1,.int .i64 x2,.slice A1 x3.length cp1,.slice A2 x4.length cp2] 40)):=((Blk.new (w:=w) hw [.pointer (some ⟨p,0,none⟩)] 131).alloc (by first | exact hp | (simp; omega)) _)
 have b0_1:Blk p (w.heap.size + 1) [.slice A0 x0.length cp0,.int .i64 x1,.int .i64 x2,.slice A1 x3.length cp1,.slice A2 x4.length cp2] ((w.alloc (.cells #[.pointer (some ⟨p,0,none⟩)] 131)).alloc (.cells #[.slice A0 x0.length cp0,.int .i64 x1,.int .i64 x2,.slice A1 x3.length cp1,.slice A2 x4.length cp2] 40)):=(show Blk p (w.heap.size + 1) [.slice A0 x0.length cp0,.int .i64 x1,.int .i64 x2,.slice A1 x3.length cp1,.slice A2 x4.length cp2] ((w.alloc (.cells #[.pointer (some ⟨p,0,none⟩)] 131)).alloc (.cells #[.slice A0 x0.length cp0,.int .i64 x1,.int .i64 x2,.slice A1 x3.length cp1,.slice A2 x4.length cp2] 40)) from by have:=Blk.new (w:=(w.alloc (.cells #[.pointer (some ⟨p,0,none⟩)] 131))) (hw.alloc _) [.slice A0 x0.length cp0,.int .i64 x1,.int .i64 x2,.slice A1 x3.length cp1,.slice A2 x4.length cp2] 40; simpa using this)
 have hB0:B≤(((w.alloc (.cells #[.pointer (some ⟨p,0,none⟩)] 131)).alloc (.cells #[.slice A0 x0.length cp0,.int .i64 x1,.int .i64 x2,.slice A1 x3.length cp1,.slice A2 x4.length cp2] 40))).heap.size:=by simp; omega
 have HBel:=qH (fun (w2:World) (h:Kp p w w2) => h.below hw)
 clear hw
 go_enter Tryz.func54,Tryz.ntmps54
 go_upto_region 1 with fail
 obtain ⟨w0,hw0⟩:=gX (((w.alloc (.cells #[.pointer (some ⟨p,0,none⟩)] 131)).alloc (.cells #[.slice A0 x0.length cp0,.int .i64 x1,.int .i64 x2,.slice A1 x3.length cp1,.slice A2 x4.length cp2] 40)))
 rw [<- hw0] at s0 k0 hB0 b0_0 b0_1 ⊢
 clear hw0
 have c0_0_0:=b0_0.2 0 _ rfl
 have c0_1_0:=b0_1.2 0 _ rfl
 have c0_1_1:=b0_1.2 1 _ rfl
 have c0_1_2:=b0_1.2 2 _ rfl
 have c0_1_3:=b0_1.2 3 _ rfl
 have c0_1_4:=b0_1.2 4 _ rfl
 have CN:=qH (w_props p B L G w0 _ x0 s0 hG hB0 (t0.below aH hG (HBel.out w0 k0)) (by rw [<- hL1]; exact hz0))
 rw [<- hL1] at CN
 go_wp2_with fail
 refine CN.out.mono ?_
 rintro e w1 ⟨rfl,s1,q1⟩
 have k1:=k0.trans q1
 have hB1:B≤w1.heap.size:=Nat.le_trans hB0 q1.size
 have b1_0:=b0_0.kp q1
 have b1_1:=b0_1.kp q1
 clear CN q1 s0 k0 hB0 b0_0 b0_1 c0_0_0 c0_1_0 c0_1_1 c0_1_2 c0_1_3 c0_1_4
 have c1_0_0:=b1_0.2 0 _ rfl
 have c1_1_0:=b1_1.2 0 _ rfl
 have c1_1_1:=b1_1.2 1 _ rfl
 have c1_1_2:=b1_1.2 2 _ rfl
 have c1_1_3:=b1_1.2 3 _ rfl
 have c1_1_4:=b1_1.2 4 _ rfl
 have CN:=qH (aC p B [x1,x2] L1 w1 s1.buf (by simp) (by intro n hn; simp only [List.mem_cons,List.not_mem_nil,or_false] at hn; rcases hn with rfl | rfl <;> assumption) hB1 (by rw [<- hL2]; exact hz1))
 rw [<- hL2] at CN
 go_wp2_with fail
 refine CN.out.mono ?_
 rintro e w2 ⟨rfl,s2,q2⟩
 have k2:=k1.trans q2
 have hB2:B≤w2.heap.size:=Nat.le_trans hB1 q2.size
 have b2_0:=b1_0.kp q2
 have b2_1:=b1_1.kp q2
 clear CN q2 s1 k1 hB1 b1_0 b1_1 c1_0_0 c1_1_0 c1_1_1 c1_1_2 c1_1_3 c1_1_4
 have c2_0_0:=b2_0.2 0 _ rfl
 have c2_1_0:=b2_1.2 0 _ rfl
 have c2_1_1:=b2_1.2 1 _ rfl
 have c2_1_2:=b2_1.2 2 _ rfl
 have c2_1_3:=b2_1.2 3 _ rfl
 have c2_1_4:=b2_1.2 4 _ rfl
 have CN:=qH (put118 twoP twoE p B w.heap.size _ _ _ x3 L2 G w2 s2.buf (t1.below aH hG (HBel.out w2 k2)) aH one_two hG (b2_0.at 0 _ rfl) hB2 (by rw [<- hL3]; exact hz2) (fun wr vs x L2 hm hR hs ha hb hz => w119 p B _ L2 G wr vs x hs.buf hG hb ha hR hz))
 rw [<- hL3] at CN
 go_wp2_with fail
 refine CN.out.mono ?_
 rintro e w3 ⟨rfl,s3,q3⟩
 have k3:=k2.trans q3
 have hB3:B≤w3.heap.size:=Nat.le_trans hB2 q3.size
 have b3_0:=b2_0.kp q3
 have b3_1:=b2_1.kp q3
 clear CN q3 s2 k2 hB2 b2_0 b2_1 c2_0_0 c2_1_0 c2_1_1 c2_1_2 c2_1_3 c2_1_4
 have c3_0_0:=b3_0.2 0 _ rfl
 have c3_1_0:=b3_1.2 0 _ rfl
 have c3_1_1:=b3_1.2 1 _ rfl
 have c3_1_2:=b3_1.2 2 _ rfl
 have c3_1_3:=b3_1.2 3 _ rfl
 have c3_1_4:=b3_1.2 4 _ rfl
 have CN:=qH (put120 layP layE p B w.heap.size _ _ _ x4 L3 G w3 s3.buf (t2.below stb_lay hG (HBel.out w3 k3)) stb_lay one_lay hG (b3_0.at 0 _ rfl) hB3 (by rw [<- hL4]; exact hsz) (fun wr vs x L2 hm hR hs ha hb hz => w121 p B _ L2 G wr vs x hs.buf hG hb ha hR hz))
 rw [<- hL4] at CN
 go_wp2_with fail
 refine CN.out.mono ?_
 rintro e w4 ⟨rfl,s4,q4⟩
 have k4:=k3.trans q4
 have hB4:B≤w4.heap.size:=Nat.le_trans hB3 q4.size
 have b4_0:=b3_0.kp q4
 have b4_1:=b3_1.kp q4
 clear CN q4 s3 k3 hB3 b3_0 b3_1 c3_0_0 c3_1_0 c3_1_1 c3_1_2 c3_1_3 c3_1_4
 go_wp2_with fail
 go_end0
 exact ⟨rfl,s4,k4⟩
theorem w125 (p B c:Nat) (L:List Nat) (G:Nat→Prop) (w:World) (vs:List Value) (x:Sty) (hw:WrSB p B w L) (hG:∀ b,G b→b < B) (hB:B≤w.heap.size) (hc:At p ⟨c,0,none⟩ (.pointer (some ⟨p,0,none⟩)) w) (hR:styP w G vs x) (hsz:(L++styE x).length≤1099511627776) :
  Calls Tryz.prog 125 #[.agg vs.toArray,.pointer (some ⟨c,0,none⟩)] w (WrE p B w (L++styE x)):=by
 obtain ⟨pv,rfl,⟨i0,i1,i2,i3,i4⟩,t0⟩:=hR
 obtain ⟨x0,x1,x2,x3,x4,x5⟩:=x
 simp only at i0 i1 i2 i3 i4 t0
 obtain ⟨A0,cp0,q0,_,_⟩:=t0.shape
 subst q0
 have hE:L++styE (x0,x1,x2,x3,x4,x5) = L++[x0,x1].flatMap encN++[x2].flatMap strE++[x3,x4].flatMap encN++aj twoE x5:=by simp only [styE,seqE,List.append_assoc,List.flatMap_cons,List.flatMap_nil,List.append_nil]
 rw [hE] at hsz ⊢
 clear hE
 have hz2:(L++[x0,x1].flatMap encN++[x2].flatMap strE++[x3,x4].flatMap encN).length≤1099511627776:=by
  have h9:=hsz
  rw [List.length_append] at h9
  omega
 have hz1:(L++[x0,x1].flatMap encN++[x2].flatMap strE).length≤1099511627776:=by
  have h9:=hz2
  rw [List.length_append] at h9
  omega
 have hz0:(L++[x0,x1].flatMap encN).length≤1099511627776:=by
  have h9:=hz1
  rw [List.length_append] at h9
  omega
 obtain ⟨L1,hL1⟩:=gX (L++[x0,x1].flatMap encN)
 rw [<- hL1] at hz0 hz1 hz2 hsz ⊢
 obtain ⟨L2,hL2⟩:=gX (L1++[x2].flatMap strE)
 rw [<- hL2] at hz1 hz2 hsz ⊢
 obtain ⟨L3,hL3⟩:=gX (L2++[x3,x4].flatMap encN)
 rw [<- hL3] at hz2 hsz ⊢
 obtain ⟨L4,hL4⟩:=gX (L3++aj twoE x5)
 rw [<- hL4] at hsz ⊢
 have hp:=hw.lt
 have s0:WrSB p B (w.alloc (.cells #[.int .i64 x0,.int .i64 x1,.string x2,.int .i64 x3,.int .i64 x4,.slice A0 x5.length cp0] 107)) L:=(hw.alloc _)
 have k0:Kp p w (w.alloc (.cells #[.int .i64 x0,.int .i64 x1,.string x2,.int .i64 x3,.int .i64 x4,.slice A0 x5.length cp0] 107)):=((Kp.refl p w).alloc (by first | exact hp | (simp; omega)) _)
 have b0_0:Blk p w.heap.size [.int .i64 x0,.int .i64 x1,.string x2,.int .i64 x3,.int .i64 x4,.slice A0 x5.length cp0] (w.alloc (.cells #[.int .i64 x0,.int .i64 x1,.string x2,.int .i64 x3,.int .i64 x4,.slice A0 x5.length cp0] 107)):=(Blk.new (w:=w) hw [.int .i64 x0,.int .i64 x1,.string x2,.int .i64 x3,.int .i64 x4,.slice A0 x5.length cp0] 107)
 have a0:At p ⟨c,0,none⟩ (.pointer (some ⟨p,0,none⟩)) (w.alloc (.cells #[.int .i64 x0,.int .i64 x1,.string x2,.int .i64 x3,.int .i64 x4,.slice A0 x5.length cp0] 107)):=(hc.alloc (by first | exact hp | (simp; omega)) _)
 have hB0:B≤((w.alloc (.cells #[.int .i64 x0,.int .i64 x1,.string x2,.int .i64 x3,.int .i64 x4,.slice A0 x5.length cp0] 107))).heap.size:=by simp; omega
 have HBel:=qH (fun (w2:World) (h:Kp p w w2) => h.below hw)
 clear hw
 go_enter Tryz.func125,Tryz.ntmps125
 go_upto_region 1 with fail
 obtain ⟨w0,hw0⟩:=gX ((w.alloc (.cells #[.int .i64 x0,.int .i64 x1,.string x2,.int .i64 x3,.int .i64 x4,.slice A0 x5.length cp0] 107)))
 rw [<- hw0] at s0 k0 hB0 b0_0 a0 ⊢
 clear hw0
 have c0_0_0:=b0_0.2 0 _ rfl
 have c0_0_1:=b0_0.2 1 _ rfl
 have c0_0_2:=b0_0.2 2 _ rfl
 have c0_0_3:=b0_0.2 3 _ rfl
 have c0_0_4:=b0_0.2 4 _ rfl
 have c0_0_5:=b0_0.2 5 _ rfl
 have ca0:=a0.2
 have CN:=qH (aC p B [x0,x1] L w0 s0 (by simp) (by intro n hn; simp only [List.mem_cons,List.not_mem_nil,or_false] at hn; rcases hn with rfl | rfl <;> assumption) hB0 (by rw [<- hL1]; exact hz0))
 rw [<- hL1] at CN
 go_wp2_with fail
 refine CN.out.mono ?_
 rintro e w1 ⟨rfl,s1,q1⟩
 have k1:=k0.trans q1
 have hB1:B≤w1.heap.size:=Nat.le_trans hB0 q1.size
 have b1_0:=b0_0.kp q1
 have a1:=a0.kp q1
 clear CN q1 s0 k0 hB0 b0_0 c0_0_0 c0_0_1 c0_0_2 c0_0_3 c0_0_4 c0_0_5 a0 ca0
 have c1_0_0:=b1_0.2 0 _ rfl
 have c1_0_1:=b1_0.2 1 _ rfl
 have c1_0_2:=b1_0.2 2 _ rfl
 have c1_0_3:=b1_0.2 3 _ rfl
 have c1_0_4:=b1_0.2 4 _ rfl
 have c1_0_5:=b1_0.2 5 _ rfl
 have ca1:=a1.2
 have CN:=qH (text_lit p B [x2] L1 w1 s1.buf (by simp) (by intro n hn; simp only [List.mem_cons,List.not_mem_nil,or_false] at hn; rcases hn with rfl <;> assumption) hB1 (by rw [<- hL2]; exact hz1))
 rw [<- hL2] at CN
 go_wp2_with fail
 refine CN.out.mono ?_
 rintro e w2 ⟨rfl,s2,q2⟩
 have k2:=k1.trans q2
 have hB2:B≤w2.heap.size:=Nat.le_trans hB1 q2.size
 have b2_0:=b1_0.kp q2
 have a2:=a1.kp q2
 clear CN q2 s1 k1 hB1 b1_0 c1_0_0 c1_0_1 c1_0_2 c1_0_3 c1_0_4 c1_0_5 a1 ca1
 have c2_0_0:=b2_0.2 0 _ rfl
 have c2_0_1:=b2_0.2 1 _ rfl
 have c2_0_2:=b2_0.2 2 _ rfl
 have c2_0_3:=b2_0.2 3 _ rfl
 have c2_0_4:=b2_0.2 4 _ rfl
 have c2_0_5:=b2_0.2 5 _ rfl
 have ca2:=a2.2
 have CN:=qH (aC p B [x3,x4] L2 w2 s2.buf (by simp) (by intro n hn; simp only [List.mem_cons,List.not_mem_nil,or_false] at hn; rcases hn with rfl | rfl <;> assumption) hB2 (by rw [<- hL3]; exact hz2))
 rw [<- hL3] at CN
 go_wp2_with fail
 refine CN.out.mono ?_
 rintro e w3 ⟨rfl,s3,q3⟩
 have k3:=k2.trans q3
 have hB3:B≤w3.heap.size:=Nat.le_trans hB2 q3.size
 have b3_0:=b2_0.kp q3
 have a3:=a2.kp q3
 clear CN q3 s2 k2 hB2 b2_0 c2_0_0 c2_0_1 c2_0_2 c2_0_3 c2_0_4 c2_0_5 a2 ca2
 have c3_0_0:=b3_0.2 0 _ rfl
 have c3_0_1:=b3_0.2 1 _ rfl
 have c3_0_2:=b3_0.2 2 _ rfl
 have c3_0_3:=b3_0.2 3 _ rfl
 have c3_0_4:=b3_0.2 4 _ rfl
 have c3_0_5:=b3_0.2 5 _ rfl
 have ca3:=a3.2
 have CN:=qH (w_props p B L3 G w3 _ x5 s3.buf hG hB3 (t0.below aH hG (HBel.out w3 k3)) (by rw [<- hL4]; exact hsz))
 rw [<- hL4] at CN
 go_wp2_with fail
 refine CN.out.mono ?_
 rintro e w4 ⟨rfl,s4,q4⟩
 have k4:=k3.trans q4
 have hB4:B≤w4.heap.size:=Nat.le_trans hB3 q4.size
 have b4_0:=b3_0.kp q4
 have a4:=a3.kp q4
 clear CN q4 s3 k3 hB3 b3_0 c3_0_0 c3_0_1 c3_0_2 c3_0_3 c3_0_4 c3_0_5 a3 ca3
 go_wp2_with fail
 go_end0
 exact ⟨rfl,s4,k4⟩
theorem w127 (p B c:Nat) (L:List Nat) (G:Nat→Prop) (w:World) (vs:List Value) (x:Lst) (hw:WrSB p B w L) (hG:∀ b,G b→b < B) (hB:B≤w.heap.size) (hc:At p ⟨c,0,none⟩ (.pointer (some ⟨p,0,none⟩)) w) (hR:lstP w G vs x) (hsz:(L++lstE x).length≤1099511627776) :
  Calls Tryz.prog 127 #[.agg vs.toArray,.pointer (some ⟨c,0,none⟩)] w (WrE p B w (L++lstE x)):=by
 obtain ⟨pv,rfl,i0,t0⟩:=hR
 obtain ⟨x0,x1⟩:=x
 simp only at i0 t0
 obtain ⟨A0,cp0,q0,_,_⟩:=t0.shape
 subst q0
 have hE:L++lstE (x0,x1) = L++[x0].flatMap encN++aj lvlE x1:=by simp only [lstE,seqE,List.append_assoc,List.flatMap_cons,List.flatMap_nil,List.append_nil]
 rw [hE] at hsz ⊢
 clear hE
 have hz0:(L++[x0].flatMap encN).length≤1099511627776:=by
  have h9:=hsz
  rw [List.length_append] at h9
  omega
 obtain ⟨L1,hL1⟩:=gX (L++[x0].flatMap encN)
 rw [<- hL1] at hz0 hsz ⊢
 obtain ⟨L2,hL2⟩:=gX (L1++aj lvlE x1)
 rw [<- hL2] at hsz ⊢
 have hp:=hw.lt
 have s0:WrSB p B (w.alloc (.cells #[.int .i64 x0,.slice A0 x1.length cp0] 110)) L:=(hw.alloc _)
 have k0:Kp p w (w.alloc (.cells #[.int .i64 x0,.slice A0 x1.length cp0] 110)):=((Kp.refl p w).alloc (by first | exact hp | (simp; omega)) _)
 have b0_0:Blk p w.heap.size [.int .i64 x0,.slice A0 x1.length cp0] (w.alloc (.cells #[.int .i64 x0,.slice A0 x1.length cp0] 110)):=(Blk.new (w:=w) hw [.int .i64 x0,.slice A0 x1.length cp0] 110)
 have a0:At p ⟨c,0,none⟩ (.pointer (some ⟨p,0,none⟩)) (w.alloc (.cells #[.int .i64 x0,.slice A0 x1.length cp0] 110)):=(hc.alloc (by first | exact hp | (simp; omega)) _)
 have hB0:B≤((w.alloc (.cells #[.int .i64 x0,.slice A0 x1.length cp0] 110))).heap.size:=by simp; omega
 have HBel:=qH (fun (w2:World) (h:Kp p w w2) => h.below hw)
 clear hw
 go_enter Tryz.func127,Tryz.ntmps127
 go_upto_region 1 with fail
 obtain ⟨w0,hw0⟩:=gX ((w.alloc (.cells #[.int .i64 x0,.slice A0 x1.length cp0] 110)))
 rw [<- hw0] at s0 k0 hB0 b0_0 a0 ⊢
 clear hw0
 have c0_0_0:=b0_0.2 0 _ rfl
 have c0_0_1:=b0_0.2 1 _ rfl
 have ca0:=a0.2
 have CN:=qH (aC p B [x0] L w0 s0 (by simp) (by intro n hn; simp only [List.mem_cons,List.not_mem_nil,or_false] at hn; rcases hn with rfl <;> assumption) hB0 (by rw [<- hL1]; exact hz0))
 rw [<- hL1] at CN
 go_wp2_with fail
 refine CN.out.mono ?_
 rintro e w1 ⟨rfl,s1,q1⟩
 have k1:=k0.trans q1
 have hB1:B≤w1.heap.size:=Nat.le_trans hB0 q1.size
 have b1_0:=b0_0.kp q1
 have a1:=a0.kp q1
 clear CN q1 s0 k0 hB0 b0_0 c0_0_0 c0_0_1 a0 ca0
 have c1_0_0:=b1_0.2 0 _ rfl
 have c1_0_1:=b1_0.2 1 _ rfl
 have ca1:=a1.2
 have CN:=qH (put128 lvlP lvlE p B c _ _ _ x1 L1 G w1 s1.buf (t0.below stb_lvl hG (HBel.out w1 k1)) stb_lvl one_lvl hG a1 hB1 (by rw [<- hL2]; exact hsz) (fun wr vs x L2 hm hR hs ha hb hz => w129 p B _ L2 G wr vs x hs.buf hG hb ha hR hz))
 rw [<- hL2] at CN
 go_wp2_with fail
 refine CN.out.mono ?_
 rintro e w2 ⟨rfl,s2,q2⟩
 have k2:=k1.trans q2
 have hB2:B≤w2.heap.size:=Nat.le_trans hB1 q2.size
 have b2_0:=b1_0.kp q2
 have a2:=a1.kp q2
 clear CN q2 s1 k1 hB1 b1_0 c1_0_0 c1_0_1 a1 ca1
 go_wp2_with fail
 go_end0
 exact ⟨rfl,s2,k2⟩
def stgP:Rp Stg:=fun w G vs x => ∃ v0 v1 v2 v3,vs = [v0,v1,v2,v3]∧Slv styP 6 w G v0 x.1∧Slv lstP 2 w G v1 x.2.1∧Slv cmtP 6 w G v2 x.2.2.1∧Slv vrP 2 w G v3 x.2.2.2
theorem stb_stg:Stb stgP:=by
 rintro w w' G G' vs x hG hb ⟨v0,v1,v2,v3,e,h0,h1,h2,h3⟩
 exact ⟨v0,v1,v2,v3,e,h0.stb aW hG hb,h1.stb bw hG hb,h2.stb stb_cmt hG hb,h3.stb stb_vr hG hb⟩
theorem w_settings (p B:Nat) (L:List Nat) (G:Nat→Prop) (w:World) (vs:List Value) (x:Stg) (hw:WrSB p B w L) (hG:∀ b,G b→b < B) (hB:B≤w.heap.size) (hR:stgP w G vs x) (hsz:(L++stgE x).length≤1099511627776) :
  Calls Tryz.prog 56 #[.pointer (some ⟨p,0,none⟩),.agg vs.toArray] w (WrE p B w (L++stgE x)):=by
 obtain ⟨v0,v1,v2,v3,rfl,t0,t1,t2,t3⟩:=hR
 obtain ⟨x0,x1,x2,x3⟩:=x
 simp only at t0 t1 t2 t3
 obtain ⟨A0,cp0,q0,_,_⟩:=t0.shape
 subst q0
 obtain ⟨A1,cp1,q1,_,_⟩:=t1.shape
 subst q1
 obtain ⟨A2,cp2,q2,_,_⟩:=t2.shape
 subst q2
 obtain ⟨A3,cp3,q3,_,_⟩:=t3.shape
 subst q3
 have hE:L++stgE (x0,x1,x2,x3) = L++aj styE x0++aj lstE x1++aj cmtE x2++aj vrE x3:=by simp only [stgE,seqE,List.append_assoc]
 rw [hE] at hsz ⊢
 clear hE
 have hz2:(L++aj styE x0++aj lstE x1++aj cmtE x2).length≤1099511627776:=by
  have h9:=hsz
  rw [List.length_append] at h9
  omega
 have hz1:(L++aj styE x0++aj lstE x1).length≤1099511627776:=by
  have h9:=hz2
  rw [List.length_append] at h9
  omega
 have hz0:(L++aj styE x0).length≤1099511627776:=by
  have h9:=hz1
  rw [List.length_append] at h9
  omega
 obtain ⟨L1,hL1⟩:=gX (L++aj styE x0)
 rw [<- hL1] at hz0 hz1 hz2 hsz ⊢
 obtain ⟨L2,hL2⟩:=gX (L1++aj lstE x1)
 rw [<- hL2] at hz1 hz2 hsz ⊢
 obtain ⟨L3,hL3⟩:=gX (L2++aj cmtE x2)
 rw [<- hL3] at hz2 hsz ⊢
 obtain ⟨L4,hL4⟩:=gX (L3++aj vrE x3)
 rw [<- hL4] at hsz ⊢
 have hp:=hw.lt
 have s0:WrSB p B ((w.alloc (.cells #[.pointer (some ⟨p,0,none⟩)] 131)).alloc (.cells #[.slice A0 x0.length cp0,.slice A1 x1.length cp1,.slice A2 x2.length cp2,.slice A3 x3.length cp3] 47)) L:=((hw.alloc _).alloc _)
 have k0:Kp p w ((w.alloc (.cells #[.pointer (some ⟨p,0,none⟩)] 131)).alloc (.cells #[.slice A0 x0.length cp0,.slice A1 x1.length cp1,.slice A2 x2.length cp2,.slice A3 x3.length cp3] 47)):=(((Kp.refl p w).alloc (by first | exact hp | (simp; omega)) _).alloc (by first | exact hp | (simp; omega)) _)
 have b0_0:Blk p w.heap.size [.pointer (some ⟨p,0,none⟩)] ((w.alloc (.cells #[.pointer (some ⟨p,0,none⟩)] 131)).alloc (.cells #[.slice A0 x0.length cp0,.slice A1 x1.length cp1,.slice A2 x2.length cp2,.slice A3 x3.length cp3] 47)):=((Blk.new (w:=w) hw [.pointer (some ⟨p,0,none⟩)] 131).alloc (by first | exact hp | (simp; omega)) _)
 have b0_1:Blk p (w.heap.size + 1) [.slice A0 x0.length cp0,.slice A1 x1.length cp1,.slice A2 x2.length cp2,.slice A3 x3.length cp3] ((w.alloc (.cells #[.pointer (some ⟨p,0,none⟩)] 131)).alloc (.cells #[.slice A0 x0.length cp0,.slice A1 x1.length cp1,.slice A2 x2.length cp2,.slice A3 x3.length cp3] 47)):=(show Blk p (w.heap.size + 1) [.slice A0 x0.length cp0,.slice A1 x1.length cp1,.slice A2 x2.length cp2,.slice A3 x3.length cp3] ((w.alloc (.cells #[.pointer (some ⟨p,0,none⟩)] 131)).alloc (.cells #[.slice A0 x0.length cp0,.slice A1 x1.length cp1,.slice A2 x2.length cp2,.slice A3 x3.length cp3] 47)) from by have:=Blk.new (w:=(w.alloc (.cells #[.pointer (some ⟨p,0,none⟩)] 131))) (hw.alloc _) [.slice A0 x0.length cp0,.slice A1 x1.length cp1,.slice A2 x2.length cp2,.slice A3 x3.length cp3] 47; simpa using this)
 have hB0:B≤(((w.alloc (.cells #[.pointer (some ⟨p,0,none⟩)] 131)).alloc (.cells #[.slice A0 x0.length cp0,.slice A1 x1.length cp1,.slice A2 x2.length cp2,.slice A3 x3.length cp3] 47))).heap.size:=by simp; omega
 have HBel:=qH (fun (w2:World) (h:Kp p w w2) => h.below hw)
 clear hw
 go_enter Tryz.func56,Tryz.ntmps56
 go_upto_region 1 with fail
 obtain ⟨w0,hw0⟩:=gX (((w.alloc (.cells #[.pointer (some ⟨p,0,none⟩)] 131)).alloc (.cells #[.slice A0 x0.length cp0,.slice A1 x1.length cp1,.slice A2 x2.length cp2,.slice A3 x3.length cp3] 47)))
 rw [<- hw0] at s0 k0 hB0 b0_0 b0_1 ⊢
 clear hw0
 have c0_0_0:=b0_0.2 0 _ rfl
 have c0_1_0:=b0_1.2 0 _ rfl
 have c0_1_1:=b0_1.2 1 _ rfl
 have c0_1_2:=b0_1.2 2 _ rfl
 have c0_1_3:=b0_1.2 3 _ rfl
 have CN:=qH (put124 styP styE p B w.heap.size _ _ _ x0 L G w0 s0 (t0.below aW hG (HBel.out w0 k0)) aW one_sty hG (b0_0.at 0 _ rfl) hB0 (by rw [<- hL1]; exact hz0) (fun wr vs x L2 hm hR hs ha hb hz => w125 p B _ L2 G wr vs x hs.buf hG hb ha hR hz))
 rw [<- hL1] at CN
 go_wp2_with fail
 refine CN.out.mono ?_
 rintro e w1 ⟨rfl,s1,q1⟩
 have k1:=k0.trans q1
 have hB1:B≤w1.heap.size:=Nat.le_trans hB0 q1.size
 have b1_0:=b0_0.kp q1
 have b1_1:=b0_1.kp q1
 clear CN q1 s0 k0 hB0 b0_0 b0_1 c0_0_0 c0_1_0 c0_1_1 c0_1_2 c0_1_3
 have c1_0_0:=b1_0.2 0 _ rfl
 have c1_1_0:=b1_1.2 0 _ rfl
 have c1_1_1:=b1_1.2 1 _ rfl
 have c1_1_2:=b1_1.2 2 _ rfl
 have c1_1_3:=b1_1.2 3 _ rfl
 have CN:=qH (put126 lstP lstE p B w.heap.size _ _ _ x1 L1 G w1 s1.buf (t1.below bw hG (HBel.out w1 k1)) bw one_lst hG (b1_0.at 0 _ rfl) hB1 (by rw [<- hL2]; exact hz1) (fun wr vs x L2 hm hR hs ha hb hz => w127 p B _ L2 G wr vs x hs.buf hG hb ha hR hz))
 rw [<- hL2] at CN
 go_wp2_with fail
 refine CN.out.mono ?_
 rintro e w2 ⟨rfl,s2,q2⟩
 have k2:=k1.trans q2
 have hB2:B≤w2.heap.size:=Nat.le_trans hB1 q2.size
 have b2_0:=b1_0.kp q2
 have b2_1:=b1_1.kp q2
 clear CN q2 s1 k1 hB1 b1_0 b1_1 c1_0_0 c1_1_0 c1_1_1 c1_1_2 c1_1_3
 have c2_0_0:=b2_0.2 0 _ rfl
 have c2_1_0:=b2_1.2 0 _ rfl
 have c2_1_1:=b2_1.2 1 _ rfl
 have c2_1_2:=b2_1.2 2 _ rfl
 have c2_1_3:=b2_1.2 3 _ rfl
 have CN:=qH (put130 cmtP cmtE p B w.heap.size _ _ _ x2 L2 G w2 s2.buf (t2.below stb_cmt hG (HBel.out w2 k2)) stb_cmt one_cmt hG (b2_0.at 0 _ rfl) hB2 (by rw [<- hL3]; exact hz2) (fun wr vs x L2 hm hR hs ha hb hz => w131 p B _ L2 G wr vs x hs.buf hG hb ha hR hz))
 rw [<- hL3] at CN
 go_wp2_with fail
 refine CN.out.mono ?_
 rintro e w3 ⟨rfl,s3,q3⟩
 have k3:=k2.trans q3
 have hB3:B≤w3.heap.size:=Nat.le_trans hB2 q3.size
 have b3_0:=b2_0.kp q3
 have b3_1:=b2_1.kp q3
 clear CN q3 s2 k2 hB2 b2_0 b2_1 c2_0_0 c2_1_0 c2_1_1 c2_1_2 c2_1_3
 have c3_0_0:=b3_0.2 0 _ rfl
 have c3_1_0:=b3_1.2 0 _ rfl
 have c3_1_1:=b3_1.2 1 _ rfl
 have c3_1_2:=b3_1.2 2 _ rfl
 have c3_1_3:=b3_1.2 3 _ rfl
 have CN:=qH (put132 vrP vrE p B w.heap.size _ _ _ x3 L3 G w3 s3.buf (t3.below stb_vr hG (HBel.out w3 k3)) stb_vr one_vr hG (b3_0.at 0 _ rfl) hB3 (by rw [<- hL4]; exact hsz) (fun wr vs x L2 hm hR hs ha hb hz => w133 p B _ L2 G wr vs x hs.buf hG hb ha hR hz))
 rw [<- hL4] at CN
 go_wp2_with fail
 refine CN.out.mono ?_
 rintro e w4 ⟨rfl,s4,q4⟩
 have k4:=k3.trans q4
 have hB4:B≤w4.heap.size:=Nat.le_trans hB3 q4.size
 have b4_0:=b3_0.kp q4
 have b4_1:=b3_1.kp q4
 clear CN q4 s3 k3 hB3 b3_0 b3_1 c3_0_0 c3_1_0 c3_1_1 c3_1_2 c3_1_3
 go_wp2_with fail
 go_end0
 exact ⟨rfl,s4,k4⟩
end Go.Proofs.YtmhhcfceikcfbaaGreat
