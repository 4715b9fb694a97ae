/- Walks: the writers of heads and settings. -/
import Derived.Test.YtmhhcfceikcfbaaGreatDeR7
import Derived.Test.YtmhhcfceikcfbaaGreatDeRx
import Derived.Test.YtmhhcfceikcfbaaGreatDeW6
namespace Go.Proofs.YtmhhcfceikcfbaaGreat
open Go.RowKit
set_option maxRecDepth 100000
set_option maxHeartbeats 4000000
theorem w_head (p B:Nat) (L:List Nat) (G:Nat→Prop) (w:World) (hs:List Value) (x:Hd) (hw:WrSB p B w L) (hG:∀ b,G b→b < B) (hB:B≤w.heap.size) (hR:hdP w G hs x) (hsz:(L++hdE x).length≤1099511627776) :
  Calls Tryz.prog 54 #[.pointer (some ⟨p,0,none⟩),.agg hs.toArray] w (WrE p B w (L++hdE x)):=by
 obtain ⟨pv,dv,lv,rfl,i0,i1,t0,t1,t2⟩:=hR
 obtain ⟨x0,x1,x2,x3,x4⟩:=x
 simp only at i0 i1 t0 t1 t2
 obtain ⟨A0,cp0,q0,_,_⟩:=t0.shape
 subst q0
 obtain ⟨A1,cp1,q1,_,_⟩:=t1.shape
 subst q1
 obtain ⟨A2,cp2,q2,_,_⟩:=t2.shape
 subst q2
 have hE:L++hdE (x0,x1,x2,x3,x4) = L++ak twoE x0++[x1,x2].flatMap encN++ak twoE x3++ak layE x4:=by simp only [hdE,seqE,List.append_assoc,List.flatMap_cons,List.flatMap_nil,List.append_nil]
 rw [hE] at hsz ⊢
 clear hE
 have hz2:(L++ak twoE x0++[x1,x2].flatMap encN++ak twoE x3).length≤1099511627776:=by
  have h9:=hsz
  rw [List.length_append] at h9
  omega
 have hz1:(L++ak twoE x0++[x1,x2].flatMap encN).length≤1099511627776:=by
  have h9:=hz2
  rw [List.length_append] at h9
  omega
 have hz0:(L++ak twoE x0).length≤1099511627776:=by
  have h9:=hz1
  rw [List.length_append] at h9
  omega
 obtain ⟨L1,hL1⟩:=gX (L++ak twoE x0)
 rw [<- hL1] at hz0 hz1 hz2 hsz ⊢
 obtain ⟨L2,hL2⟩:=gX (L1++[x1,x2].flatMap encN)
 rw [<- hL2] at hz1 hz2 hsz ⊢
 obtain ⟨L3,hL3⟩:=gX (L2++ak twoE x3)
 rw [<- hL3] at hz2 hsz ⊢
 obtain ⟨L4,hL4⟩:=gX (L3++ak layE x4)
 rw [<- hL4] at hsz ⊢
 have hp:=hw.lt
 have s0:WrSB p B ((w.alloc (.cells #[.pointer (some ⟨p,0,none⟩)] 131)).alloc (.cells #[.slice A0 x0.length cp0,.int .i64 x1,.int .i64 x2,.slice A1 x3.length cp1,.slice A2 x4.length cp2] 40)) L:=((hw.alloc _).alloc _)
 have k0:Kp p w ((w.alloc (.cells #[.pointer (some ⟨p,0,none⟩)] 131)).alloc (.cells #[.slice A0 x0.length cp0,.int .i64 x1,.int .i64 x2,.slice A1 x3.length cp1,.slice A2 x4.length cp2] 40)):=(((Kp.refl p w).alloc (by first | exact hp | (simp; omega)) _).alloc (by first | exact hp | (simp; omega)) _)
 have b0_0:Blk p w.heap.size [.pointer (some ⟨p,0,none⟩)] ((w.alloc (.cells #[.pointer (some ⟨p,0,none⟩)] 131)).alloc (.cells #[.slice A0 x0.length cp0,.int .i64 x1,.int .i64 x2,.slice A1 x3.length cp1,.slice A2 x4.length cp2] 40)):=((Blk.new (w:=w) hw [.pointer (some ⟨p,0,none⟩)] 131).alloc (by first | exact hp | (simp; omega)) _)
 have b0_1:Blk p (w.heap.size + 1) [.slice A0 x0.length cp0,.int .i64 x1,.int .i64 x2,.slice A1 x3.length cp1,.slice A2 x4.length cp2] ((w.alloc (.cells #[.pointer (some ⟨p,0,none⟩)] 131)).alloc (.cells #[.slice A0 x0.length cp0,.int .i64 x1,.int .i64 x2,.slice A1 x3.length cp1,.slice A2 x4.length cp2] 40)):=(show Blk p (w.heap.size + 1) [.slice A0 x0.length cp0,.int .i64 x1,.int .i64 x2,.slice A1 x3.length cp1,.slice A2 x4.length cp2] ((w.alloc (.cells #[.pointer (some ⟨p,0,none⟩)] 131)).alloc (.cells #[.slice A0 x0.length cp0,.int .i64 x1,.int .i64 x2,.slice A1 x3.length cp1,.slice A2 x4.length cp2] 40)) from by have:=Blk.new (w:=(w.alloc (.cells #[.pointer (some ⟨p,0,none⟩)] 131))) (hw.alloc _) [.slice A0 x0.length cp0,.int .i64 x1,.int .i64 x2,.slice A1 x3.length cp1,.slice A2 x4.length cp2] 40; simpa using this)
 have hB0:B≤(((w.alloc (.cells #[.pointer (some ⟨p,0,none⟩)] 131)).alloc (.cells #[.slice A0 x0.length cp0,.int .i64 x1,.int .i64 x2,.slice A1 x3.length cp1,.slice A2 x4.length cp2] 40))).heap.size:=by simp; omega
 have HBel:=qH (fun (w2:World) (h:Kp p w w2) => h.below hw)
 clear hw
 go_enter Tryz.func54,Tryz.ntmps54
 go_upto_region 1 with fail
 obtain ⟨w0,hw0⟩:=gX (((w.alloc (.cells #[.pointer (some ⟨p,0,none⟩)] 131)).alloc (.cells #[.slice A0 x0.length cp0,.int .i64 x1,.int .i64 x2,.slice A1 x3.length cp1,.slice A2 x4.length cp2] 40)))
 rw [<- hw0] at s0 k0 hB0 b0_0 b0_1 ⊢
 clear hw0
 have c0_0_0:=b0_0.2 0 _ rfl
 have c0_1_0:=b0_1.2 0 _ rfl
 have c0_1_1:=b0_1.2 1 _ rfl
 have c0_1_2:=b0_1.2 2 _ rfl
 have c0_1_3:=b0_1.2 3 _ rfl
 have c0_1_4:=b0_1.2 4 _ rfl
 have CN:=qH (w_props p B L G w0 _ x0 s0 hG hB0 (t0.below am hG (HBel.out w0 k0)) (by rw [<- hL1]; exact hz0))
 rw [<- hL1] at CN
 go_wp2_with fail
 refine CN.out.mono ?_
 rintro e w1 ⟨rfl,s1,q1⟩
 have k1:=k0.trans q1
 have hB1:B≤w1.heap.size:=Nat.le_trans hB0 q1.size
 have b1_0:=b0_0.kp q1
 have b1_1:=b0_1.kp q1
 clear CN q1 s0 k0 hB0 b0_0 b0_1 c0_0_0 c0_1_0 c0_1_1 c0_1_2 c0_1_3 c0_1_4
 have c1_0_0:=b1_0.2 0 _ rfl
 have c1_1_0:=b1_1.2 0 _ rfl
 have c1_1_1:=b1_1.2 1 _ rfl
 have c1_1_2:=b1_1.2 2 _ rfl
 have c1_1_3:=b1_1.2 3 _ rfl
 have c1_1_4:=b1_1.2 4 _ rfl
 have CN:=qH (aH p B [x1,x2] L1 w1 s1.buf (by simp) (by intro n hn; simp only [List.mem_cons,List.not_mem_nil,or_false] at hn; rcases hn with rfl | rfl <;> assumption) hB1 (by rw [<- hL2]; exact hz1))
 rw [<- hL2] at CN
 go_wp2_with fail
 refine CN.out.mono ?_
 rintro e w2 ⟨rfl,s2,q2⟩
 have k2:=k1.trans q2
 have hB2:B≤w2.heap.size:=Nat.le_trans hB1 q2.size
 have b2_0:=b1_0.kp q2
 have b2_1:=b1_1.kp q2
 clear CN q2 s1 k1 hB1 b1_0 b1_1 c1_0_0 c1_1_0 c1_1_1 c1_1_2 c1_1_3 c1_1_4
 have c2_0_0:=b2_0.2 0 _ rfl
 have c2_1_0:=b2_1.2 0 _ rfl
 have c2_1_1:=b2_1.2 1 _ rfl
 have c2_1_2:=b2_1.2 2 _ rfl
 have c2_1_3:=b2_1.2 3 _ rfl
 have c2_1_4:=b2_1.2 4 _ rfl
 have CN:=qH (put118 twoP twoE p B w.heap.size _ _ _ x3 L2 G w2 s2.buf (t1.below am hG (HBel.out w2 k2)) am one_two hG (b2_0.at 0 _ rfl) hB2 (by rw [<- hL3]; exact hz2) (fun wr vs x L2 hm hR hs ha hb hz => w119 p B _ L2 G wr vs x hs.buf hG hb ha hR hz))
 rw [<- hL3] at CN
 go_wp2_with fail
 refine CN.out.mono ?_
 rintro e w3 ⟨rfl,s3,q3⟩
 have k3:=k2.trans q3
 have hB3:B≤w3.heap.size:=Nat.le_trans hB2 q3.size
 have b3_0:=b2_0.kp q3
 have b3_1:=b2_1.kp q3
 clear CN q3 s2 k2 hB2 b2_0 b2_1 c2_0_0 c2_1_0 c2_1_1 c2_1_2 c2_1_3 c2_1_4
 have c3_0_0:=b3_0.2 0 _ rfl
 have c3_1_0:=b3_1.2 0 _ rfl
 have c3_1_1:=b3_1.2 1 _ rfl
 have c3_1_2:=b3_1.2 2 _ rfl
 have c3_1_3:=b3_1.2 3 _ rfl
 have c3_1_4:=b3_1.2 4 _ rfl
 have CN:=qH (put120 layP layE p B w.heap.size _ _ _ x4 L3 G w3 s3.buf (t2.below bD hG (HBel.out w3 k3)) bD one_lay hG (b3_0.at 0 _ rfl) hB3 (by rw [<- hL4]; exact hsz) (fun wr vs x L2 hm hR hs ha hb hz => w121 p B _ L2 G wr vs x hs.buf hG hb ha hR hz))
 rw [<- hL4] at CN
 go_wp2_with fail
 refine CN.out.mono ?_
 rintro e w4 ⟨rfl,s4,q4⟩
 have k4:=k3.trans q4
 have hB4:B≤w4.heap.size:=Nat.le_trans hB3 q4.size
 have b4_0:=b3_0.kp q4
 have b4_1:=b3_1.kp q4
 clear CN q4 s3 k3 hB3 b3_0 b3_1 c3_0_0 c3_1_0 c3_1_1 c3_1_2 c3_1_3 c3_1_4
 go_wp2_with fail
 go_end0
 exact ⟨rfl,s4,k4⟩
theorem w125 (p B c:Nat) (L:List Nat) (G:Nat→Prop) (w:World) (vs:List Value) (x:Sty) (hw:WrSB p B w L) (hG:∀ b,G b→b < B) (hB:B≤w.heap.size) (hc:At p ⟨c,0,none⟩ (.pointer (some ⟨p,0,none⟩)) w) (hR:styP w G vs x) (hsz:(L++styE x).length≤1099511627776) :
  Calls Tryz.prog 125 #[.agg vs.toArray,.pointer (some ⟨c,0,none⟩)] w (WrE p B w (L++styE x)):=by
 obtain ⟨pv,rfl,⟨i0,i1,i2,i3,i4⟩,t0⟩:=hR
 obtain ⟨x0,x1,x2,x3,x4,x5⟩:=x
 simp only at i0 i1 i2 i3 i4 t0
 obtain ⟨A0,cp0,q0,_,_⟩:=t0.shape
 subst q0
 have hE:L++styE (x0,x1,x2,x3,x4,x5) = L++[x0,x1].flatMap encN++[x2].flatMap strE++[x3,x4].flatMap encN++ak twoE x5:=by simp only [styE,seqE,List.append_assoc,List.flatMap_cons,List.flatMap_nil,List.append_nil]
 rw [hE] at hsz ⊢
 clear hE
 have hz2:(L++[x0,x1].flatMap encN++[x2].flatMap strE++[x3,x4].flatMap encN).length≤1099511627776:=by
  have h9:=hsz
  rw [List.length_append] at h9
  omega
 have hz1:(L++[x0,x1].flatMap encN++[x2].flatMap strE).length≤1099511627776:=by
  have h9:=hz2
  rw [List.length_append] at h9
  omega
 have hz0:(L++[x0,x1].flatMap encN).length≤1099511627776:=by
  have h9:=hz1
  rw [List.length_append] at h9
  omega
 obtain ⟨L1,hL1⟩:=gX (L++[x0,x1].flatMap encN)
 rw [<- hL1] at hz0 hz1 hz2 hsz ⊢
 obtain ⟨L2,hL2⟩:=gX (L1++[x2].flatMap strE)
 rw [<- hL2] at hz1 hz2 hsz ⊢
 obtain ⟨L3,hL3⟩:=gX (L2++[x3,x4].flatMap encN)
 rw [<- hL3] at hz2 hsz ⊢
 obtain ⟨L4,hL4⟩:=gX (L3++ak twoE x5)
 rw [<- hL4] at hsz ⊢
 have hp:=hw.lt
 have s0:WrSB p B (w.alloc (.cells #[.int .i64 x0,.int .i64 x1,.string x2,.int .i64 x3,.int .i64 x4,.slice A0 x5.length cp0] 107)) L:=(hw.alloc _)
 have k0:Kp p w (w.alloc (.cells #[.int .i64 x0,.int .i64 x1,.string x2,.int .i64 x3,.int .i64 x4,.slice A0 x5.length cp0] 107)):=((Kp.refl p w).alloc (by first | exact hp | (simp; omega)) _)
 have b0_0:Blk p w.heap.size [.int .i64 x0,.int .i64 x1,.string x2,.int .i64 x3,.int .i64 x4,.slice A0 x5.length cp0] (w.alloc (.cells #[.int .i64 x0,.int .i64 x1,.string x2,.int .i64 x3,.int .i64 x4,.slice A0 x5.length cp0] 107)):=(Blk.new (w:=w) hw [.int .i64 x0,.int .i64 x1,.string x2,.int .i64 x3,.int .i64 x4,.slice A0 x5.length cp0] 107)
 have a0:At p ⟨c,0,none⟩ (.pointer (some ⟨p,0,none⟩)) (w.alloc (.cells #[.int .i64 x0,.int .i64 x1,.string x2,.int .i64 x3,.int .i64 x4,.slice A0 x5.length cp0] 107)):=(hc.alloc (by first | exact hp | (simp; omega)) _)
 have hB0:B≤((w.alloc (.cells #[.int .i64 x0,.int .i64 x1,.string x2,.int .i64 x3,.int .i64 x4,.slice A0 x5.length cp0] 107))).heap.size:=by simp; omega
 have HBel:=qH (fun (w2:World) (h:Kp p w w2) => h.below hw)
 clear hw
 go_enter Tryz.func125,Tryz.ntmps125
 go_upto_region 1 with fail
 obtain ⟨w0,hw0⟩:=gX ((w.alloc (.cells #[.int .i64 x0,.int .i64 x1,.string x2,.int .i64 x3,.int .i64 x4,.slice A0 x5.length cp0] 107)))
 rw [<- hw0] at s0 k0 hB0 b0_0 a0 ⊢
 clear hw0
 have c0_0_0:=b0_0.2 0 _ rfl
 have c0_0_1:=b0_0.2 1 _ rfl
 have c0_0_2:=b0_0.2 2 _ rfl
 have c0_0_3:=b0_0.2 3 _ rfl
 have c0_0_4:=b0_0.2 4 _ rfl
 have c0_0_5:=b0_0.2 5 _ rfl
 have ca0:=a0.2
 have CN:=qH (aH p B [x0,x1] L w0 s0 (by simp) (by intro n hn; simp only [List.mem_cons,List.not_mem_nil,or_false] at hn; rcases hn with rfl | rfl <;> assumption) hB0 (by rw [<- hL1]; exact hz0))
 rw [<- hL1] at CN
 go_wp2_with fail
 refine CN.out.mono ?_
 rintro e w1 ⟨rfl,s1,q1⟩
 have k1:=k0.trans q1
 have hB1:B≤w1.heap.size:=Nat.le_trans hB0 q1.size
 have b1_0:=b0_0.kp q1
 have a1:=a0.kp q1
 clear CN q1 s0 k0 hB0 b0_0 c0_0_0 c0_0_1 c0_0_2 c0_0_3 c0_0_4 c0_0_5 a0 ca0
 have c1_0_0:=b1_0.2 0 _ rfl
 have c1_0_1:=b1_0.2 1 _ rfl
 have c1_0_2:=b1_0.2 2 _ rfl
 have c1_0_3:=b1_0.2 3 _ rfl
 have c1_0_4:=b1_0.2 4 _ rfl
 have c1_0_5:=b1_0.2 5 _ rfl
 have ca1:=a1.2
 have CN:=qH (text_lit p B [x2] L1 w1 s1.buf (by simp) (by intro n hn; simp only [List.mem_cons,List.not_mem_nil,or_false] at hn; rcases hn with rfl <;> assumption) hB1 (by rw [<- hL2]; exact hz1))
 rw [<- hL2] at CN
 go_wp2_with fail
 refine CN.out.mono ?_
 rintro e w2 ⟨rfl,s2,q2⟩
 have k2:=k1.trans q2
 have hB2:B≤w2.heap.size:=Nat.le_trans hB1 q2.size
 have b2_0:=b1_0.kp q2
 have a2:=a1.kp q2
 clear CN q2 s1 k1 hB1 b1_0 c1_0_0 c1_0_1 c1_0_2 c1_0_3 c1_0_4 c1_0_5 a1 ca1
 have c2_0_0:=b2_0.2 0 _ rfl
 have c2_0_1:=b2_0.2 1 _ rfl
 have c2_0_2:=b2_0.2 2 _ rfl
 have c2_0_3:=b2_0.2 3 _ rfl
 have c2_0_4:=b2_0.2 4 _ rfl
 have c2_0_5:=b2_0.2 5 _ rfl
 have ca2:=a2.2
 have CN:=qH (aH p B [x3,x4] L2 w2 s2.buf (by simp) (by intro n hn; simp only [List.mem_cons,List.not_mem_nil,or_false] at hn; rcases hn with rfl | rfl <;> assumption) hB2 (by rw [<- hL3]; exact hz2))
 rw [<- hL3] at CN
 go_wp2_with fail
 refine CN.out.mono ?_
 rintro e w3 ⟨rfl,s3,q3⟩
 have k3:=k2.trans q3
 have hB3:B≤w3.heap.size:=Nat.le_trans hB2 q3.size
 have b3_0:=b2_0.kp q3
 have a3:=a2.kp q3
 clear CN q3 s2 k2 hB2 b2_0 c2_0_0 c2_0_1 c2_0_2 c2_0_3 c2_0_4 c2_0_5 a2 ca2
 have c3_0_0:=b3_0.2 0 _ rfl
 have c3_0_1:=b3_0.2 1 _ rfl
 have c3_0_2:=b3_0.2 2 _ rfl
 have c3_0_3:=b3_0.2 3 _ rfl
 have c3_0_4:=b3_0.2 4 _ rfl
 have c3_0_5:=b3_0.2 5 _ rfl
 have ca3:=a3.2
 have CN:=qH (w_props p B L3 G w3 _ x5 s3.buf hG hB3 (t0.below am hG (HBel.out w3 k3)) (by rw [<- hL4]; exact hsz))
 rw [<- hL4] at CN
 go_wp2_with fail
 refine CN.out.mono ?_
 rintro e w4 ⟨rfl,s4,q4⟩
 have k4:=k3.trans q4
 have hB4:B≤w4.heap.size:=Nat.le_trans hB3 q4.size
 have b4_0:=b3_0.kp q4
 have a4:=a3.kp q4
 clear CN q4 s3 k3 hB3 b3_0 c3_0_0 c3_0_1 c3_0_2 c3_0_3 c3_0_4 c3_0_5 a3 ca3
 go_wp2_with fail
 go_end0
 exact ⟨rfl,s4,k4⟩
theorem w127 (p B c:Nat) (L:List Nat) (G:Nat→Prop) (w:World) (vs:List Value) (x:Lst) (hw:WrSB p B w L) (hG:∀ b,G b→b < B) (hB:B≤w.heap.size) (hc:At p ⟨c,0,none⟩ (.pointer (some ⟨p,0,none⟩)) w) (hR:lstP w G vs x) (hsz:(L++lstE x).length≤1099511627776) :
  Calls Tryz.prog 127 #[.agg vs.toArray,.pointer (some ⟨c,0,none⟩)] w (WrE p B w (L++lstE x)):=by
 obtain ⟨pv,rfl,i0,t0⟩:=hR
 obtain ⟨x0,x1⟩:=x
 simp only at i0 t0
 obtain ⟨A0,cp0,q0,_,_⟩:=t0.shape
 subst q0
 have hE:L++lstE (x0,x1) = L++[x0].flatMap encN++ak lvlE x1:=by simp only [lstE,seqE,List.append_assoc,List.flatMap_cons,List.flatMap_nil,List.append_nil]
 rw [hE] at hsz ⊢
 clear hE
 have hz0:(L++[x0].flatMap encN).length≤1099511627776:=by
  have h9:=hsz
  rw [List.length_append] at h9
  omega
 obtain ⟨L1,hL1⟩:=gX (L++[x0].flatMap encN)
 rw [<- hL1] at hz0 hsz ⊢
 obtain ⟨L2,hL2⟩:=gX (L1++ak lvlE x1)
 rw [<- hL2] at hsz ⊢
 have hp:=hw.lt
 have s0:WrSB p B (w.alloc (.cells #[.int .i64 x0,.slice A0 x1.length cp0] 110)) L:=(hw.alloc _)
 have k0:Kp p w (w.alloc (.cells #[.int .i64 x0,.slice A0 x1.length cp0] 110)):=((Kp.refl p w).alloc (by first | exact hp | (simp; omega)) _)
 have b0_0:Blk p w.heap.size [.int .i64 x0,.slice A0 x1.length cp0] (w.alloc (.cells #[.int .i64 x0,.slice A0 x1.length cp0] 110)):=(Blk.new (w:=w) hw [.int .i64 x0,.slice A0 x1.length cp0] 110)
 have a0:At p ⟨c,0,none⟩ (.pointer (some ⟨p,0,none⟩)) (w.alloc (.cells #[.int .i64 x0,.slice A0 x1.length cp0] 110)):=(hc.alloc (by first | exact hp | (simp; omega)) _)
 have hB0:B≤((w.alloc (.cells #[.int .i64 x0,.slice A0 x1.length cp0] 110))).heap.size:=by simp; omega
 have HBel:=qH (fun (w2:World) (h:Kp p w w2) => h.below hw)
 clear hw
 go_enter Tryz.func127,Tryz.ntmps127
 go_upto_region 1 with fail
 obtain ⟨w0,hw0⟩:=gX ((w.alloc (.cells #[.int .i64 x0,.slice A0 x1.length cp0] 110)))
 rw [<- hw0] at s0 k0 hB0 b0_0 a0 ⊢
 clear hw0
 have c0_0_0:=b0_0.2 0 _ rfl
 have c0_0_1:=b0_0.2 1 _ rfl
 have ca0:=a0.2
 have CN:=qH (aH p B [x0] L w0 s0 (by simp) (by intro n hn; simp only [List.mem_cons,List.not_mem_nil,or_false] at hn; rcases hn with rfl <;> assumption) hB0 (by rw [<- hL1]; exact hz0))
 rw [<- hL1] at CN
 go_wp2_with fail
 refine CN.out.mono ?_
 rintro e w1 ⟨rfl,s1,q1⟩
 have k1:=k0.trans q1
 have hB1:B≤w1.heap.size:=Nat.le_trans hB0 q1.size
 have b1_0:=b0_0.kp q1
 have a1:=a0.kp q1
 clear CN q1 s0 k0 hB0 b0_0 c0_0_0 c0_0_1 a0 ca0
 have c1_0_0:=b1_0.2 0 _ rfl
 have c1_0_1:=b1_0.2 1 _ rfl
 have ca1:=a1.2
 have CN:=qH (put128 lvlP lvlE p B c _ _ _ x1 L1 G w1 s1.buf (t0.below bH hG (HBel.out w1 k1)) bH one_lvl hG a1 hB1 (by rw [<- hL2]; exact hsz) (fun wr vs x L2 hm hR hs ha hb hz => w129 p B _ L2 G wr vs x hs.buf hG hb ha hR hz))
 rw [<- hL2] at CN
 go_wp2_with fail
 refine CN.out.mono ?_
 rintro e w2 ⟨rfl,s2,q2⟩
 have k2:=k1.trans q2
 have hB2:B≤w2.heap.size:=Nat.le_trans hB1 q2.size
 have b2_0:=b1_0.kp q2
 have a2:=a1.kp q2
 clear CN q2 s1 k1 hB1 b1_0 c1_0_0 c1_0_1 a1 ca1
 go_wp2_with fail
 go_end0
 exact ⟨rfl,s2,k2⟩
def stgP:Rp Stg:=fun w G vs x => ∃ v0 v1 v2 v3,vs = [v0,v1,v2,v3]∧Slv styP 6 w G v0 x.1∧Slv lstP 2 w G v1 x.2.1∧Slv cmtP 6 w G v2 x.2.2.1∧Slv vrP 2 w G v3 x.2.2.2
theorem stb_stg:Stb stgP:=by
 rintro w w' G G' vs x hG hb ⟨v0,v1,v2,v3,e,h0,h1,h2,h3⟩
 exact ⟨v0,v1,v2,v3,e,h0.stb aF hG hb,h1.stb aL hG hb,h2.stb aY hG hb,h3.stb stb_vr hG hb⟩
theorem w_settings (p B:Nat) (L:List Nat) (G:Nat→Prop) (w:World) (vs:List Value) (x:Stg) (hw:WrSB p B w L) (hG:∀ b,G b→b < B) (hB:B≤w.heap.size) (hR:stgP w G vs x) (hsz:(L++stgE x).length≤1099511627776) :
  Calls Tryz.prog 56 #[.pointer (some ⟨p,0,none⟩),.agg vs.toArray] w (WrE p B w (L++stgE x)):=by
 obtain ⟨v0,v1,v2,v3,rfl,t0,t1,t2,t3⟩:=hR
 obtain ⟨x0,x1,x2,x3⟩:=x
 simp only at t0 t1 t2 t3
 obtain ⟨A0,cp0,q0,_,_⟩:=t0.shape
 subst q0
 obtain ⟨A1,cp1,q1,_,_⟩:=t1.shape
 subst q1
 obtain ⟨A2,cp2,q2,_,_⟩:=t2.shape
 subst q2
 obtain ⟨A3,cp3,q3,_,_⟩:=t3.shape
 subst q3
 have hE:L++stgE (x0,x1,x2,x3) = L++ak styE x0++ak lstE x1++ak cmtE x2++ak vrE x3:=by simp only [stgE,seqE,List.append_assoc]
 rw [hE] at hsz ⊢
 clear hE
 have hz2:(L++ak styE x0++ak lstE x1++ak cmtE x2).length≤1099511627776:=by
  have h9:=hsz
  rw [List.length_append] at h9
  omega
 have hz1:(L++ak styE x0++ak lstE x1).length≤1099511627776:=by
  have h9:=hz2
  rw [List.length_append] at h9
  omega
 have hz0:(L++ak styE x0).length≤1099511627776:=by
  have h9:=hz1
  rw [List.length_append] at h9
  omega
 obtain ⟨L1,hL1⟩:=gX (L++ak styE x0)
 rw [<- hL1] at hz0 hz1 hz2 hsz ⊢
 obtain ⟨L2,hL2⟩:=gX (L1++ak lstE x1)
 rw [<- hL2] at hz1 hz2 hsz ⊢
 obtain ⟨L3,hL3⟩:=gX (L2++ak cmtE x2)
 rw [<- hL3] at hz2 hsz ⊢
 obtain ⟨L4,hL4⟩:=gX (L3++ak vrE x3)
 rw [<- hL4] at hsz ⊢
 have hp:=hw.lt
 have s0:WrSB p B ((w.alloc (.cells #[.pointer (some ⟨p,0,none⟩)] 131)).alloc (.cells #[.slice A0 x0.length cp0,.slice A1 x1.length cp1,.slice A2 x2.length cp2,.slice A3 x3.length cp3] 47)) L:=((hw.alloc _).alloc _)
 have k0:Kp p w ((w.alloc (.cells #[.pointer (some ⟨p,0,none⟩)] 131)).alloc (.cells #[.slice A0 x0.length cp0,.slice A1 x1.length cp1,.slice A2 x2.length cp2,.slice A3 x3.length cp3] 47)):=(((Kp.refl p w).alloc (by first | exact hp | (simp; omega)) _).alloc (by first | exact hp | (simp; omega)) _)
 have b0_0:Blk p w.heap.size [.pointer (some ⟨p,0,none⟩)] ((w.alloc (.cells #[.pointer (some ⟨p,0,none⟩)] 131)).alloc (.cells #[.slice A0 x0.length cp0,.slice A1 x1.length cp1,.slice A2 x2.length cp2,.slice A3 x3.length cp3] 47)):=((Blk.new (w:=w) hw [.pointer (some ⟨p,0,none⟩)] 131).alloc (by first | exact hp | (simp; omega)) _)
 have b0_1:Blk p (w.heap.size + 1) [.slice A0 x0.length cp0,.slice A1 x1.length cp1,.slice A2 x2.length cp2,.slice A3 x3.length cp3] ((w.alloc (.cells #[.pointer (some ⟨p,0,none⟩)] 131)).alloc (.cells #[.slice A0 x0.length cp0,.slice A1 x1.length cp1,.slice A2 x2.length cp2,.slice A3 x3.length cp3] 47)):=(show Blk p (w.heap.size + 1) [.slice A0 x0.length cp0,.slice A1 x1.length cp1,.slice A2 x2.length cp2,.slice A3 x3.length cp3] ((w.alloc (.cells #[.pointer (some ⟨p,0,none⟩)] 131)).alloc (.cells #[.slice A0 x0.length cp0,.slice A1 x1.length cp1,.slice A2 x2.length cp2,.slice A3 x3.length cp3] 47)) from by have:=Blk.new (w:=(w.alloc (.cells #[.pointer (some ⟨p,0,none⟩)] 131))) (hw.alloc _) [.slice A0 x0.length cp0,.slice A1 x1.length cp1,.slice A2 x2.length cp2,.slice A3 x3.length cp3] 47; simpa using this)
 have hB0:B≤(((w.alloc (.cells #[.pointer (some ⟨p,0,none⟩)] 131)).alloc (.cells #[.slice A0 x0.length cp0,.slice A1 x1.length cp1,.slice A2 x2.length cp2,.slice A3 x3.length cp3] 47))).heap.size:=by simp; omega
 have HBel:=qH (fun (w2:World) (h:Kp p w w2) => h.below hw)
 clear hw
 go_enter Tryz.func56,Tryz.ntmps56
 go_upto_region 1 with fail
 obtain ⟨w0,hw0⟩:=gX (((w.alloc (.cells #[.pointer (some ⟨p,0,none⟩)] 131)).alloc (.cells #[.slice A0 x0.length cp0,.slice A1 x1.length cp1,.slice A2 x2.length cp2,.slice A3 x3.length cp3] 47)))
 rw [<- hw0] at s0 k0 hB0 b0_0 b0_1 ⊢
 clear hw0
 have c0_0_0:=b0_0.2 0 _ rfl
 have c0_1_0:=b0_1.2 0 _ rfl
 have c0_1_1:=b0_1.2 1 _ rfl
 have c0_1_2:=b0_1.2 2 _ rfl
 have c0_1_3:=b0_1.2 3 _ rfl
 have CN:=qH (put124 styP styE p B w.heap.size _ _ _ x0 L G w0 s0 (t0.below aF hG (HBel.out w0 k0)) aF one_sty hG (b0_0.at 0 _ rfl) hB0 (by rw [<- hL1]; exact hz0) (fun wr vs x L2 hm hR hs ha hb hz => w125 p B _ L2 G wr vs x hs.buf hG hb ha hR hz))
 rw [<- hL1] at CN
 go_wp2_with fail
 refine CN.out.mono ?_
 rintro e w1 ⟨rfl,s1,q1⟩
 have k1:=k0.trans q1
 have hB1:B≤w1.heap.size:=Nat.le_trans hB0 q1.size
 have b1_0:=b0_0.kp q1
 have b1_1:=b0_1.kp q1
 clear CN q1 s0 k0 hB0 b0_0 b0_1 c0_0_0 c0_1_0 c0_1_1 c0_1_2 c0_1_3
 have c1_0_0:=b1_0.2 0 _ rfl
 have c1_1_0:=b1_1.2 0 _ rfl
 have c1_1_1:=b1_1.2 1 _ rfl
 have c1_1_2:=b1_1.2 2 _ rfl
 have c1_1_3:=b1_1.2 3 _ rfl
 have CN:=qH (put126 lstP lstE p B w.heap.size _ _ _ x1 L1 G w1 s1.buf (t1.below aL hG (HBel.out w1 k1)) aL one_lst hG (b1_0.at 0 _ rfl) hB1 (by rw [<- hL2]; exact hz1) (fun wr vs x L2 hm hR hs ha hb hz => w127 p B _ L2 G wr vs x hs.buf hG hb ha hR hz))
 rw [<- hL2] at CN
 go_wp2_with fail
 refine CN.out.mono ?_
 rintro e w2 ⟨rfl,s2,q2⟩
 have k2:=k1.trans q2
 have hB2:B≤w2.heap.size:=Nat.le_trans hB1 q2.size
 have b2_0:=b1_0.kp q2
 have b2_1:=b1_1.kp q2
 clear CN q2 s1 k1 hB1 b1_0 b1_1 c1_0_0 c1_1_0 c1_1_1 c1_1_2 c1_1_3
 have c2_0_0:=b2_0.2 0 _ rfl
 have c2_1_0:=b2_1.2 0 _ rfl
 have c2_1_1:=b2_1.2 1 _ rfl
 have c2_1_2:=b2_1.2 2 _ rfl
 have c2_1_3:=b2_1.2 3 _ rfl
 have CN:=qH (put130 cmtP cmtE p B w.heap.size _ _ _ x2 L2 G w2 s2.buf (t2.below aY hG (HBel.out w2 k2)) aY one_cmt hG (b2_0.at 0 _ rfl) hB2 (by rw [<- hL3]; exact hz2) (fun wr vs x L2 hm hR hs ha hb hz => w131 p B _ L2 G wr vs x hs.buf hG hb ha hR hz))
 rw [<- hL3] at CN
 go_wp2_with fail
 refine CN.out.mono ?_
 rintro e w3 ⟨rfl,s3,q3⟩
 have k3:=k2.trans q3
 have hB3:B≤w3.heap.size:=Nat.le_trans hB2 q3.size
 have b3_0:=b2_0.kp q3
 have b3_1:=b2_1.kp q3
 clear CN q3 s2 k2 hB2 b2_0 b2_1 c2_0_0 c2_1_0 c2_1_1 c2_1_2 c2_1_3
 have c3_0_0:=b3_0.2 0 _ rfl
 have c3_1_0:=b3_1.2 0 _ rfl
 have c3_1_1:=b3_1.2 1 _ rfl
 have c3_1_2:=b3_1.2 2 _ rfl
 have c3_1_3:=b3_1.2 3 _ rfl
 have CN:=qH (put132 vrP vrE p B w.heap.size _ _ _ x3 L3 G w3 s3.buf (t3.below stb_vr hG (HBel.out w3 k3)) stb_vr one_vr hG (b3_0.at 0 _ rfl) hB3 (by rw [<- hL4]; exact hsz) (fun wr vs x L2 hm hR hs ha hb hz => w133 p B _ L2 G wr vs x hs.buf hG hb ha hR hz))
 rw [<- hL4] at CN
 go_wp2_with fail
 refine CN.out.mono ?_
 rintro e w4 ⟨rfl,s4,q4⟩
 have k4:=k3.trans q4
 have hB4:B≤w4.heap.size:=Nat.le_trans hB3 q4.size
 have b4_0:=b3_0.kp q4
 have b4_1:=b3_1.kp q4
 clear CN q4 s3 k3 hB3 b3_0 b3_1 c3_0_0 c3_1_0 c3_1_1 c3_1_2 c3_1_3
 go_wp2_with fail
 go_end0
 exact ⟨rfl,s4,k4⟩
end Go.Proofs.YtmhhcfceikcfbaaGreat
namespace Go.Proofs.YtmhhcfceikcfbaaGreat
open Go.RowKit
set_option maxRecDepth 100000
set_option maxHeartbeats 4000000
theorem lr146  (r k0:Nat) (s:ByteArray) (e0:Int) (w:World) (h:Rdr 30 r s k0 e0 w) (hk0:k0≤s.size) (hs:s.size≤549755813888) :
  Calls Tryz.prog 146 #[.pointer (some ⟨r,0,none⟩)] w (bq twoP twoR 2 30 r s k0 e0 w):=by
 have hrw:=ae h
 have C:=qH (size73 r k0 s e0 w h hk0 (by omega))
 clear h
 go_enter Tryz.func146,Tryz.ntmps146
 go_wp2_with fail
 refine C.out.mono ?_
 rintro e w1 ⟨m,kz,ez,rfl,hkm,hn0,hr,hg,hsz⟩
 have HI0:Hid (LstI twoP 2 187 w.heap.size (.slice none 0 0) [] w1):=qH (LstI.nil _ _ _ _ _)
 have HR0:Hid (Rdr 30 r s kz ez w1∧w.grownBy w1 (some r)∧Res (aR twoR 0) s kz ez ([]:List Two) kz ez):=qH ⟨hr,hg,Res.many0 _ _ _ _ hsz.1⟩
 have HS:=qH hsz
 have hms:m≤s.size:=by omega
 clear C hr hg hsz hn0 hkm
 go_wp2_with fail
 go_loopw [3,4] (fun ov nv wr => ∃ (i j k c:Nat) (e:Int) (A:Option Addr) (l:List Two),ov = .slice A i c∧nv = .int .i64 (j:Int)∧i + j = m∧l.length = i∧Hid (LstI twoP 2 187 w.heap.size (.slice A i c) l wr)∧Hid (Rdr 30 r s k e wr∧w.grownBy wr (some r)∧Res (aR twoR i) s kz ez l k e)) (fun _ nv _ => (intOf nv).toNat)
 case atStart => exact ⟨0,m,kz,0,ez,none,[],rfl,rfl,by omega,rfl,HI0,HR0⟩
 obtain ⟨i,j,k,c,e,A,l,rfl,rfl,hij,hil,HI,HR⟩:=hrel
 clear HI0 HR0
 obtain ⟨c0,c1,c2,f1,f2⟩:=HR.out.1.cells
 by_cases hj:j = 0
 ·subst hj
  have hL:Hid (bq twoP twoR 2 30 r s k0 e0 w (.returned (.slice A i c)) wr):=qH ⟨_,l,k,e,rfl,HI.out.slv am,HR.out.1,HR.out.2.1,HS.out.list (by have h3:=HR.out.2.2; rw [show i = m by omega] at h3; exact h3)⟩
  clear HI HR HS hij hil
  go_wp2_with fail
  go_ret
  exact hL.out
 have hj1:(0:Int) < (j:Int):=by omega
 have hj2:decide ((0:Int) < (j:Int)) = true:=by simpa using hj1
 have hj3:0 < j:=by omega
 rcases Int.decEq e 0 with he | he
 ·have d0:(e == 0) = false:=by simpa using he
  have hL:Hid (bq twoP twoR 2 30 r s k0 e0 w (.returned (.slice A i c)) wr):=qH ⟨_,l,k,e,rfl,HI.out.slv am,HR.out.1,HR.out.2.1,HS.out.list (HR.out.2.2.manyErr he (by omega))⟩
  clear HI HR HS hij hil
  go_wp2_with fail
  go_ret
  exact hL.out
 subst he
 obtain ⟨jj,hjj⟩:∃ jj,j = jj + 1:=⟨j - 1,by omega⟩
 have wj:IntKind.i64.wrap ((j:Int) - 1) = (jj:Int):=by rw [IntKind.wrap_i64] <;> omega
 have hbw:w.heap.size≤wr.heap.size:=HR.out.2.1.size
 have hrl:r < wr.heap.size:=by omega
 have hk:k≤s.size:=HR.out.2.2.1
 have Hjj:=qH hjj
 have hij2:i + jj + 1 = m:=by omega
 clear hj hjj hij
 have C1:=qH (aD r k s 0 wr HR.out.1 hk (by omega))
 clear c0 c1 f1 f2
 go_wp2_with fail
 refine C1.out.mono ?_
 rintro e w3 ⟨x1,k2,e2,rfl,hx1,hr3,hg3,hs1⟩
 have hk2:k2≤s.size:=hs1.1
 have C2:=qH (aD r k2 s e2 w3 hr3 hk2 (by omega))
 have HG3:=qH hg3
 have HS1:=qH hs1
 clear C1 hr3 hg3 hs1 c2
 go_upto_region 6 with fail
 refine ac (by rfl) ?_
 simp only [List.map]
 refine sq1 (.slice A i c) ?_
 refine sq1i x1 ?_
 refine sq1p r 0 ?_
 refine af 17 #[.pointer (some ⟨r,0,none⟩)] (by go_simp) ?_
 refine Calls.mono C2.out ?_
 rintro e w4 ⟨x2,k2x,e2x,rfl,hx2,hr4,hg4,hs2⟩
 have HG4:=qH (an HG3.out hg4)
 refine ⟨_,rfl,trivial,?_⟩
 simp only [Act.put,PutA,PutZ,PutS]
 refine sq1 (.agg #[.int .i64 x1,.int .i64 x2]) ?_
 refine au (.slice (some ⟨w4.heap.size,0,none⟩) 1 1) (w4.alloc (.cells #[.int .i64 x1,.int .i64 x2] 187)) (by go_simp) trivial ?_
 simp only [Act.put,PutA,PutZ,PutS]
 refine sq_push am _ _ 34 16 w4.heap.size 1 rfl rfl Tryz.underlying34 info187x (by decide) [.int .i64 x1,.int .i64 x2] (x1,x2) (HI.out.grow am HG4.out hrw) rfl rfl (by simp [Value.oneCell']) ⟨rfl,hx1,hx2⟩ (fun g hg => by have h1:=(HI.out.own_ge g hg).2; have h2:=HG4.out.size; omega) (Nat.le_trans hbw HG4.out.size) (Nat.le_trans hbw HG4.out.size) rfl (by rw [hil]; omega) (by rw [hil]; omega) ?_
 intro v2 w2 hl2 hb2
 have HR2:Hid (Rdr 30 r s k2x e2x w2∧w.grownBy w2 (some r)∧Res (aR twoR (i + 1)) s kz ez (l++[(x1,x2)]) k2x e2x):=qH ⟨(hb2.block r hrw).trans hr4,grown_below (an HR.out.2.1 HG4.out) hb2 (Nat.le_refl _),HR.out.2.2.snoc (HS1.out.seq hs2)⟩
 clear hr4 hg4 hs2 C2
 obtain ⟨A2,c2x,hv2⟩:=hl2.shape
 rw [List.length_append,hil] at hv2
 subst hv2
 have HI2:Hid (LstI twoP 2 187 w.heap.size (.slice A2 (i + 1) c2x) (l++[(x1,x2)]) w2):=qH hl2
 refine ⟨trivial,?_⟩
 simp only [Act.put,PutA,PutZ,PutS]
 refine sq1 (.slice A2 (i + 1) c2x) ?_
 refine ad ?_
 clear hl2 hb2 HI HR
 go_wp2_with fail
 go_roundw
 case rel => exact ⟨i + 1,jj,k2x,c2x,e2x,A2,l++[(x1,x2)],rfl,by go_num,by omega,by simp [hil],HI2,HR2⟩
 rw [Hjj.out]; simp [intOf]
end Go.Proofs.YtmhhcfceikcfbaaGreat
