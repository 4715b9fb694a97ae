/- Walks: the writers of items, rows and cells. -/
import Derived.Test.YtmhhcfceikcfbaaGreatDeW7
namespace Go.Proofs.YtmhhcfceikcfbaaGreat
open Go.RowKit
set_option maxRecDepth 100000
set_option maxHeartbeats 4000000
def ItemsC {α:Type} (R:Rp α) (enc:α→List Nat):Prop:=∀ (p B:Nat) (L:List Nat) (G:Nat→Prop) (w:World) (v:Value) (l:List α),WrSB p B w L→(∀ b,G b→b < B)→B≤w.heap.size→Slv R 11 w G v l→(L++ak enc l).length≤1099511627776 →
  Calls Tryz.prog 53 #[.pointer (some ⟨p,0,none⟩),v] w (WrE p B w (L++ak enc l))
theorem w150 {α:Type} (R:Rp α) (enc:α→List Nat) (hSt:Stb R) (HI:ItemsC R enc) (p B c:Nat) (L:List Nat) (G:Nat→Prop) (w:World) (vs:List Value) (x:Int × Hd × List α) (hw:WrSB p B w L) (hG:∀ b,G b→b < B) (hB:B≤w.heap.size) (hc:At p ⟨c,0,none⟩ (.pointer (some ⟨p,0,none⟩)) w) (hR:ceP R w G vs x) (hsz:(L++ceE enc x).length≤1099511627776) :
  Calls Tryz.prog 150 #[.agg vs.toArray,.pointer (some ⟨c,0,none⟩)] w (WrE p B w (L++ceE enc x)):=by
 obtain ⟨h0,h1,h2,h3,h4,fv,rfl,i0,th,t0⟩:=hR
 obtain ⟨x0,x1,x2⟩:=x
 simp only at i0 th t0
 obtain ⟨A0,cp0,q0,_,_⟩:=t0.shape
 subst q0
 have hE:L++ceE enc (x0,x1,x2) = L++[x0].flatMap encN++hdE x1++ak enc x2:=by simp only [ceE,seqE,List.append_assoc,List.flatMap_cons,List.flatMap_nil,List.append_nil]
 rw [hE] at hsz ⊢
 clear hE
 have hz1:(L++[x0].flatMap encN++hdE x1).length≤1099511627776:=by
  have h9:=hsz
  rw [List.length_append] at h9
  omega
 have hz0:(L++[x0].flatMap encN).length≤1099511627776:=by
  have h9:=hz1
  rw [List.length_append] at h9
  omega
 obtain ⟨L1,hL1⟩:=gX (L++[x0].flatMap encN)
 rw [<- hL1] at hz0 hz1 hsz ⊢
 obtain ⟨L2,hL2⟩:=gX (L1++hdE x1)
 rw [<- hL2] at hz1 hsz ⊢
 obtain ⟨L3,hL3⟩:=gX (L2++ak enc x2)
 rw [<- hL3] at hsz ⊢
 have hp:=hw.lt
 have s0:WrSB p B (w.alloc (.cells #[.int .i64 x0,h0,h1,h2,h3,h4,.slice A0 x2.length cp0] 174)) L:=(hw.alloc _)
 have k0:Kp p w (w.alloc (.cells #[.int .i64 x0,h0,h1,h2,h3,h4,.slice A0 x2.length cp0] 174)):=((Kp.refl p w).alloc (by first | exact hp | (simp; omega)) _)
 have b0_0:Blk p w.heap.size [.int .i64 x0,h0,h1,h2,h3,h4,.slice A0 x2.length cp0] (w.alloc (.cells #[.int .i64 x0,h0,h1,h2,h3,h4,.slice A0 x2.length cp0] 174)):=(Blk.new (w:=w) hw [.int .i64 x0,h0,h1,h2,h3,h4,.slice A0 x2.length cp0] 174)
 have a0:At p ⟨c,0,none⟩ (.pointer (some ⟨p,0,none⟩)) (w.alloc (.cells #[.int .i64 x0,h0,h1,h2,h3,h4,.slice A0 x2.length cp0] 174)):=(hc.alloc (by first | exact hp | (simp; omega)) _)
 have hB0:B≤((w.alloc (.cells #[.int .i64 x0,h0,h1,h2,h3,h4,.slice A0 x2.length cp0] 174))).heap.size:=by simp; omega
 have HBel:=qH (fun (w2:World) (h:Kp p w w2) => h.below hw)
 clear hw
 go_enter Tryz.func150,Tryz.ntmps150
 go_upto_region 1 with fail
 obtain ⟨w0,hw0⟩:=gX ((w.alloc (.cells #[.int .i64 x0,h0,h1,h2,h3,h4,.slice A0 x2.length cp0] 174)))
 rw [<- hw0] at s0 k0 hB0 b0_0 a0 ⊢
 clear hw0
 have c0_0_0:=b0_0.2 0 _ rfl
 have c0_0_1:=b0_0.2 1 _ rfl
 have c0_0_2:=b0_0.2 2 _ rfl
 have c0_0_3:=b0_0.2 3 _ rfl
 have c0_0_4:=b0_0.2 4 _ rfl
 have c0_0_5:=b0_0.2 5 _ rfl
 have c0_0_6:=b0_0.2 6 _ rfl
 have ca0:=a0.2
 have CN:=qH (aH p B [x0] L w0 s0 (by simp) (by intro n hn; simp only [List.mem_cons,List.not_mem_nil,or_false] at hn; rcases hn with rfl <;> assumption) hB0 (by rw [<- hL1]; exact hz0))
 rw [<- hL1] at CN
 go_wp2_with fail
 refine CN.out.mono ?_
 rintro e w1 ⟨rfl,s1,q1⟩
 have k1:=k0.trans q1
 have hB1:B≤w1.heap.size:=Nat.le_trans hB0 q1.size
 have b1_0:=b0_0.kp q1
 have a1:=a0.kp q1
 clear CN q1 s0 k0 hB0 b0_0 c0_0_0 c0_0_1 c0_0_2 c0_0_3 c0_0_4 c0_0_5 c0_0_6 a0 ca0
 have c1_0_0:=b1_0.2 0 _ rfl
 have c1_0_1:=b1_0.2 1 _ rfl
 have c1_0_2:=b1_0.2 2 _ rfl
 have c1_0_3:=b1_0.2 3 _ rfl
 have c1_0_4:=b1_0.2 4 _ rfl
 have c1_0_5:=b1_0.2 5 _ rfl
 have c1_0_6:=b1_0.2 6 _ rfl
 have ca1:=a1.2
 have CN:=qH (w_head p B L1 G w1 [h0,h1,h2,h3,h4] x1 s1.buf hG hB1 (ay _ _ _ _ _ _ (fun _ h => h) (fun b hb _ => ((HBel.out w1 k1)).block b (hG b hb)) th) (by rw [<- hL2]; exact hz1))
 rw [<- hL2] at CN
 go_wp2_with fail
 refine CN.out.mono ?_
 rintro e w2 ⟨rfl,s2,q2⟩
 have k2:=k1.trans q2
 have hB2:B≤w2.heap.size:=Nat.le_trans hB1 q2.size
 have b2_0:=b1_0.kp q2
 have a2:=a1.kp q2
 clear CN q2 s1 k1 hB1 b1_0 c1_0_0 c1_0_1 c1_0_2 c1_0_3 c1_0_4 c1_0_5 c1_0_6 a1 ca1
 have c2_0_0:=b2_0.2 0 _ rfl
 have c2_0_1:=b2_0.2 1 _ rfl
 have c2_0_2:=b2_0.2 2 _ rfl
 have c2_0_3:=b2_0.2 3 _ rfl
 have c2_0_4:=b2_0.2 4 _ rfl
 have c2_0_5:=b2_0.2 5 _ rfl
 have c2_0_6:=b2_0.2 6 _ rfl
 have ca2:=a2.2
 have CN:=qH (HI p B L2 G w2 _ x2 s2.buf hG hB2 (t0.below hSt hG (HBel.out w2 k2)) (by rw [<- hL3]; exact hsz))
 rw [<- hL3] at CN
 go_wp2_with fail
 refine CN.out.mono ?_
 rintro e w3 ⟨rfl,s3,q3⟩
 have k3:=k2.trans q3
 have hB3:B≤w3.heap.size:=Nat.le_trans hB2 q3.size
 have b3_0:=b2_0.kp q3
 have a3:=a2.kp q3
 clear CN q3 s2 k2 hB2 b2_0 c2_0_0 c2_0_1 c2_0_2 c2_0_3 c2_0_4 c2_0_5 c2_0_6 a2 ca2
 go_wp2_with fail
 go_end0
 exact ⟨rfl,s3,k3⟩
theorem w_cells {α:Type} (R:Rp α) (enc:α→List Nat) (hSt:Stb R) (HI:ItemsC R enc) (p B:Nat) (L:List Nat) (G:Nat→Prop) (w:World) (v:Value) (l:List (Int × Hd × List α)) (hw:WrSB p B w L) (hG:∀ b,G b→b < B) (hB:B≤w.heap.size) (hv:Slv (ceP R) 7 w G v l) (hsz:(L++ak (ceE enc) l).length≤1099511627776) :
  Calls Tryz.prog 79 #[.pointer (some ⟨p,0,none⟩),v] w (WrE p B w (L++ak (ceE enc) l)):=by
 obtain ⟨A,cp,hsl,_,_⟩:=hv.shape
 subst hsl
 have hE:L++ak (ceE enc) l = L++ak (ceE enc) l:=rfl
 rw [hE] at hsz ⊢
 clear hE
 obtain ⟨L1,hL1⟩:=gX (L++ak (ceE enc) l)
 rw [<- hL1] at hsz ⊢
 have hp:=hw.lt
 have s0:WrSB p B (w.alloc (.cells #[.pointer (some ⟨p,0,none⟩)] 131)) L:=(hw.alloc _)
 have k0:Kp p w (w.alloc (.cells #[.pointer (some ⟨p,0,none⟩)] 131)):=((Kp.refl p w).alloc (by first | exact hp | (simp; omega)) _)
 have b0_0:Blk p w.heap.size [.pointer (some ⟨p,0,none⟩)] (w.alloc (.cells #[.pointer (some ⟨p,0,none⟩)] 131)):=(Blk.new (w:=w) hw [.pointer (some ⟨p,0,none⟩)] 131)
 have hB0:B≤((w.alloc (.cells #[.pointer (some ⟨p,0,none⟩)] 131))).heap.size:=by simp; omega
 have HBel:=qH (fun (w2:World) (h:Kp p w w2) => h.below hw)
 clear hw
 go_enter Tryz.func79,Tryz.ntmps79
 go_upto_region 1 with fail
 obtain ⟨w0,hw0⟩:=gX ((w.alloc (.cells #[.pointer (some ⟨p,0,none⟩)] 131)))
 rw [<- hw0] at s0 k0 hB0 b0_0 ⊢
 clear hw0
 have c0_0_0:=b0_0.2 0 _ rfl
 have CN:=qH (put149 (ceP R) (ceE enc) p B w.heap.size _ _ _ l L G w0 s0 (hv.below (bI hSt) hG (HBel.out w0 k0)) (bI hSt) one_ce hG (b0_0.at 0 _ rfl) hB0 (by rw [<- hL1]; exact hsz) (fun wr vs x L2 hm hR hs ha hb hz => w150 R enc hSt HI p B _ L2 G wr vs x hs.buf hG hb ha hR hz))
 rw [<- hL1] at CN
 go_wp2_with fail
 refine CN.out.mono ?_
 rintro e w1 ⟨rfl,s1,q1⟩
 have k1:=k0.trans q1
 have hB1:B≤w1.heap.size:=Nat.le_trans hB0 q1.size
 have b1_0:=b0_0.kp q1
 clear CN q1 s0 k0 hB0 b0_0 c0_0_0
 go_wp2_with fail
 go_end0
 exact ⟨rfl,s1,k1⟩
theorem w148 {α:Type} (R:Rp α) (enc:α→List Nat) (hSt:Stb R) (HI:ItemsC R enc) (p B c:Nat) (L:List Nat) (G:Nat→Prop) (w:World) (vs:List Value) (x:Hd × List (Int × Hd × List α)) (hw:WrSB p B w L) (hG:∀ b,G b→b < B) (hB:B≤w.heap.size) (hc:At p ⟨c,0,none⟩ (.pointer (some ⟨p,0,none⟩)) w) (hR:rwP R w G vs x) (hsz:(L++rwE enc x).length≤1099511627776) :
  Calls Tryz.prog 148 #[.agg vs.toArray,.pointer (some ⟨c,0,none⟩)] w (WrE p B w (L++rwE enc x)):=by
 obtain ⟨h0,h1,h2,h3,h4,fv,rfl,th,t0⟩:=hR
 obtain ⟨x0,x1⟩:=x
 simp only at th t0
 obtain ⟨A0,cp0,q0,_,_⟩:=t0.shape
 subst q0
 have hE:L++rwE enc (x0,x1) = L++hdE x0++ak (ceE enc) x1:=by simp only [rwE,seqE,List.append_assoc]
 rw [hE] at hsz ⊢
 clear hE
 have hz0:(L++hdE x0).length≤1099511627776:=by
  have h9:=hsz
  rw [List.length_append] at h9
  omega
 obtain ⟨L1,hL1⟩:=gX (L++hdE x0)
 rw [<- hL1] at hz0 hsz ⊢
 obtain ⟨L2,hL2⟩:=gX (L1++ak (ceE enc) x1)
 rw [<- hL2] at hsz ⊢
 have hp:=hw.lt
 have s0:WrSB p B (w.alloc (.cells #[h0,h1,h2,h3,h4,.slice A0 x1.length cp0] 156)) L:=(hw.alloc _)
 have k0:Kp p w (w.alloc (.cells #[h0,h1,h2,h3,h4,.slice A0 x1.length cp0] 156)):=((Kp.refl p w).alloc (by first | exact hp | (simp; omega)) _)
 have b0_0:Blk p w.heap.size [h0,h1,h2,h3,h4,.slice A0 x1.length cp0] (w.alloc (.cells #[h0,h1,h2,h3,h4,.slice A0 x1.length cp0] 156)):=(Blk.new (w:=w) hw [h0,h1,h2,h3,h4,.slice A0 x1.length cp0] 156)
 have a0:At p ⟨c,0,none⟩ (.pointer (some ⟨p,0,none⟩)) (w.alloc (.cells #[h0,h1,h2,h3,h4,.slice A0 x1.length cp0] 156)):=(hc.alloc (by first | exact hp | (simp; omega)) _)
 have hB0:B≤((w.alloc (.cells #[h0,h1,h2,h3,h4,.slice A0 x1.length cp0] 156))).heap.size:=by simp; omega
 have HBel:=qH (fun (w2:World) (h:Kp p w w2) => h.below hw)
 clear hw
 go_enter Tryz.func148,Tryz.ntmps148
 go_upto_region 1 with fail
 obtain ⟨w0,hw0⟩:=gX ((w.alloc (.cells #[h0,h1,h2,h3,h4,.slice A0 x1.length cp0] 156)))
 rw [<- hw0] at s0 k0 hB0 b0_0 a0 ⊢
 clear hw0
 have c0_0_0:=b0_0.2 0 _ rfl
 have c0_0_1:=b0_0.2 1 _ rfl
 have c0_0_2:=b0_0.2 2 _ rfl
 have c0_0_3:=b0_0.2 3 _ rfl
 have c0_0_4:=b0_0.2 4 _ rfl
 have c0_0_5:=b0_0.2 5 _ rfl
 have ca0:=a0.2
 have CN:=qH (w_head p B L G w0 [h0,h1,h2,h3,h4] x0 s0 hG hB0 (ay _ _ _ _ _ _ (fun _ h => h) (fun b hb _ => ((HBel.out w0 k0)).block b (hG b hb)) th) (by rw [<- hL1]; exact hz0))
 rw [<- hL1] at CN
 go_wp2_with fail
 refine CN.out.mono ?_
 rintro e w1 ⟨rfl,s1,q1⟩
 have k1:=k0.trans q1
 have hB1:B≤w1.heap.size:=Nat.le_trans hB0 q1.size
 have b1_0:=b0_0.kp q1
 have a1:=a0.kp q1
 clear CN q1 s0 k0 hB0 b0_0 c0_0_0 c0_0_1 c0_0_2 c0_0_3 c0_0_4 c0_0_5 a0 ca0
 have c1_0_0:=b1_0.2 0 _ rfl
 have c1_0_1:=b1_0.2 1 _ rfl
 have c1_0_2:=b1_0.2 2 _ rfl
 have c1_0_3:=b1_0.2 3 _ rfl
 have c1_0_4:=b1_0.2 4 _ rfl
 have c1_0_5:=b1_0.2 5 _ rfl
 have ca1:=a1.2
 have CN:=qH (w_cells R enc hSt HI p B L1 G w1 _ x1 s1.buf hG hB1 (t0.below (bI hSt) hG (HBel.out w1 k1)) (by rw [<- hL2]; exact hsz))
 rw [<- hL2] at CN
 go_wp2_with fail
 refine CN.out.mono ?_
 rintro e w2 ⟨rfl,s2,q2⟩
 have k2:=k1.trans q2
 have hB2:B≤w2.heap.size:=Nat.le_trans hB1 q2.size
 have b2_0:=b1_0.kp q2
 have a2:=a1.kp q2
 clear CN q2 s1 k1 hB1 b1_0 c1_0_0 c1_0_1 c1_0_2 c1_0_3 c1_0_4 c1_0_5 a1 ca1
 go_wp2_with fail
 go_end0
 exact ⟨rfl,s2,k2⟩
theorem w_rows {α:Type} (R:Rp α) (enc:α→List Nat) (hSt:Stb R) (HI:ItemsC R enc) (p B:Nat) (L:List Nat) (G:Nat→Prop) (w:World) (v:Value) (l:List (Hd × List (Int × Hd × List α))) (hw:WrSB p B w L) (hG:∀ b,G b→b < B) (hB:B≤w.heap.size) (hv:Slv (rwP R) 6 w G v l) (hsz:(L++ak (rwE enc) l).length≤1099511627776) :
  Calls Tryz.prog 78 #[.pointer (some ⟨p,0,none⟩),v] w (WrE p B w (L++ak (rwE enc) l)):=by
 obtain ⟨A,cp,hsl,_,_⟩:=hv.shape
 subst hsl
 have hE:L++ak (rwE enc) l = L++ak (rwE enc) l:=rfl
 rw [hE] at hsz ⊢
 clear hE
 obtain ⟨L1,hL1⟩:=gX (L++ak (rwE enc) l)
 rw [<- hL1] at hsz ⊢
 have hp:=hw.lt
 have s0:WrSB p B (w.alloc (.cells #[.pointer (some ⟨p,0,none⟩)] 131)) L:=(hw.alloc _)
 have k0:Kp p w (w.alloc (.cells #[.pointer (some ⟨p,0,none⟩)] 131)):=((Kp.refl p w).alloc (by first | exact hp | (simp; omega)) _)
 have b0_0:Blk p w.heap.size [.pointer (some ⟨p,0,none⟩)] (w.alloc (.cells #[.pointer (some ⟨p,0,none⟩)] 131)):=(Blk.new (w:=w) hw [.pointer (some ⟨p,0,none⟩)] 131)
 have hB0:B≤((w.alloc (.cells #[.pointer (some ⟨p,0,none⟩)] 131))).heap.size:=by simp; omega
 have HBel:=qH (fun (w2:World) (h:Kp p w w2) => h.below hw)
 clear hw
 go_enter Tryz.func78,Tryz.ntmps78
 go_upto_region 1 with fail
 obtain ⟨w0,hw0⟩:=gX ((w.alloc (.cells #[.pointer (some ⟨p,0,none⟩)] 131)))
 rw [<- hw0] at s0 k0 hB0 b0_0 ⊢
 clear hw0
 have c0_0_0:=b0_0.2 0 _ rfl
 have CN:=qH (put147 (rwP R) (rwE enc) p B w.heap.size _ _ _ l L G w0 s0 (hv.below (bs hSt) hG (HBel.out w0 k0)) (bs hSt) one_rw hG (b0_0.at 0 _ rfl) hB0 (by rw [<- hL1]; exact hsz) (fun wr vs x L2 hm hR hs ha hb hz => w148 R enc hSt HI p B _ L2 G wr vs x hs.buf hG hb ha hR hz))
 rw [<- hL1] at CN
 go_wp2_with fail
 refine CN.out.mono ?_
 rintro e w1 ⟨rfl,s1,q1⟩
 have k1:=k0.trans q1
 have hB1:B≤w1.heap.size:=Nat.le_trans hB0 q1.size
 have b1_0:=b0_0.kp q1
 clear CN q1 s0 k0 hB0 b0_0 c0_0_0
 go_wp2_with fail
 go_end0
 exact ⟨rfl,s1,k1⟩
theorem w115 {α:Type} (R:Rp α) (enc:α→List Nat) (hSt:Stb R) (HI:ItemsC R enc) (p B c:Nat) (L:List Nat) (G:Nat→Prop) (w:World) (vs:List Value) (x:ItS α) (hw:WrSB p B w L) (hG:∀ b,G b→b < B) (hB:B≤w.heap.size) (hc:At p ⟨c,0,none⟩ (.pointer (some ⟨p,0,none⟩)) w) (hR:isP R w G vs x) (hsz:(L++isE enc x).length≤1099511627776) :
  Calls Tryz.prog 115 #[.agg vs.toArray,.pointer (some ⟨c,0,none⟩)] w (WrE p B w (L++isE enc x)):=by
 obtain ⟨h0,h1,h2,h3,h4,fv,rv,rfl,⟨i0,i1,i2,i3⟩,th,t0,t1⟩:=hR
 obtain ⟨x0,x1,x2,x3,x4,x5,x6⟩:=x
 simp only at i0 i1 i2 i3 th t0 t1
 obtain ⟨A0,cp0,q0,_,_⟩:=t0.shape
 subst q0
 obtain ⟨A1,cp1,q1,_,_⟩:=t1.shape
 subst q1
 have hE:L++isE enc (x0,x1,x2,x3,x4,x5,x6) = L++[x0,x1,x2].flatMap encN++[x3].flatMap strE++hdE x4++ak enc x5++ak (rwE enc) x6:=by simp only [isE,seqE,List.append_assoc,List.flatMap_cons,List.flatMap_nil,List.append_nil]
 rw [hE] at hsz ⊢
 clear hE
 have hz3:(L++[x0,x1,x2].flatMap encN++[x3].flatMap strE++hdE x4++ak enc x5).length≤1099511627776:=by
  have h9:=hsz
  rw [List.length_append] at h9
  omega
 have hz2:(L++[x0,x1,x2].flatMap encN++[x3].flatMap strE++hdE x4).length≤1099511627776:=by
  have h9:=hz3
  rw [List.length_append] at h9
  omega
 have hz1:(L++[x0,x1,x2].flatMap encN++[x3].flatMap strE).length≤1099511627776:=by
  have h9:=hz2
  rw [List.length_append] at h9
  omega
 have hz0:(L++[x0,x1,x2].flatMap encN).length≤1099511627776:=by
  have h9:=hz1
  rw [List.length_append] at h9
  omega
 obtain ⟨L1,hL1⟩:=gX (L++[x0,x1,x2].flatMap encN)
 rw [<- hL1] at hz0 hz1 hz2 hz3 hsz ⊢
 obtain ⟨L2,hL2⟩:=gX (L1++[x3].flatMap strE)
 rw [<- hL2] at hz1 hz2 hz3 hsz ⊢
 obtain ⟨L3,hL3⟩:=gX (L2++hdE x4)
 rw [<- hL3] at hz2 hz3 hsz ⊢
 obtain ⟨L4,hL4⟩:=gX (L3++ak enc x5)
 rw [<- hL4] at hz3 hsz ⊢
 obtain ⟨L5,hL5⟩:=gX (L4++ak (rwE enc) x6)
 rw [<- hL5] at hsz ⊢
 have hp:=hw.lt
 have s0:WrSB p B (w.alloc (.cells #[.int .i64 x0,.int .i64 x1,.int .i64 x2,.string x3,h0,h1,h2,h3,h4,.slice A0 x5.length cp0,.slice A1 x6.length cp1] 53)) L:=(hw.alloc _)
 have k0:Kp p w (w.alloc (.cells #[.int .i64 x0,.int .i64 x1,.int .i64 x2,.string x3,h0,h1,h2,h3,h4,.slice A0 x5.length cp0,.slice A1 x6.length cp1] 53)):=((Kp.refl p w).alloc (by first | exact hp | (simp; omega)) _)
 have b0_0:Blk p w.heap.size [.int .i64 x0,.int .i64 x1,.int .i64 x2,.string x3,h0,h1,h2,h3,h4,.slice A0 x5.length cp0,.slice A1 x6.length cp1] (w.alloc (.cells #[.int .i64 x0,.int .i64 x1,.int .i64 x2,.string x3,h0,h1,h2,h3,h4,.slice A0 x5.length cp0,.slice A1 x6.length cp1] 53)):=(Blk.new (w:=w) hw [.int .i64 x0,.int .i64 x1,.int .i64 x2,.string x3,h0,h1,h2,h3,h4,.slice A0 x5.length cp0,.slice A1 x6.length cp1] 53)
 have a0:At p ⟨c,0,none⟩ (.pointer (some ⟨p,0,none⟩)) (w.alloc (.cells #[.int .i64 x0,.int .i64 x1,.int .i64 x2,.string x3,h0,h1,h2,h3,h4,.slice A0 x5.length cp0,.slice A1 x6.length cp1] 53)):=(hc.alloc (by first | exact hp | (simp; omega)) _)
 have hB0:B≤((w.alloc (.cells #[.int .i64 x0,.int .i64 x1,.int .i64 x2,.string x3,h0,h1,h2,h3,h4,.slice A0 x5.length cp0,.slice A1 x6.length cp1] 53))).heap.size:=by simp; omega
 have HBel:=qH (fun (w2:World) (h:Kp p w w2) => h.below hw)
 clear hw
 go_enter Tryz.func115,Tryz.ntmps115
 go_upto_region 1 with fail
 obtain ⟨w0,hw0⟩:=gX ((w.alloc (.cells #[.int .i64 x0,.int .i64 x1,.int .i64 x2,.string x3,h0,h1,h2,h3,h4,.slice A0 x5.length cp0,.slice A1 x6.length cp1] 53)))
 rw [<- hw0] at s0 k0 hB0 b0_0 a0 ⊢
 clear hw0
 have c0_0_0:=b0_0.2 0 _ rfl
 have c0_0_1:=b0_0.2 1 _ rfl
 have c0_0_2:=b0_0.2 2 _ rfl
 have c0_0_3:=b0_0.2 3 _ rfl
 have c0_0_4:=b0_0.2 4 _ rfl
 have c0_0_5:=b0_0.2 5 _ rfl
 have c0_0_6:=b0_0.2 6 _ rfl
 have c0_0_7:=b0_0.2 7 _ rfl
 have c0_0_8:=b0_0.2 8 _ rfl
 have c0_0_9:=b0_0.2 9 _ rfl
 have c0_0_10:=b0_0.2 10 _ rfl
 have ca0:=a0.2
 have CN:=qH (aH p B [x0,x1,x2] L w0 s0 (by simp) (by intro n hn; simp only [List.mem_cons,List.not_mem_nil,or_false] at hn; rcases hn with rfl | rfl | rfl <;> assumption) hB0 (by rw [<- hL1]; exact hz0))
 rw [<- hL1] at CN
 go_wp2_with fail
 refine CN.out.mono ?_
 rintro e w1 ⟨rfl,s1,q1⟩
 have k1:=k0.trans q1
 have hB1:B≤w1.heap.size:=Nat.le_trans hB0 q1.size
 have b1_0:=b0_0.kp q1
 have a1:=a0.kp q1
 clear CN q1 s0 k0 hB0 b0_0 c0_0_0 c0_0_1 c0_0_2 c0_0_3 c0_0_4 c0_0_5 c0_0_6 c0_0_7 c0_0_8 c0_0_9 c0_0_10 a0 ca0
 have c1_0_0:=b1_0.2 0 _ rfl
 have c1_0_1:=b1_0.2 1 _ rfl
 have c1_0_2:=b1_0.2 2 _ rfl
 have c1_0_3:=b1_0.2 3 _ rfl
 have c1_0_4:=b1_0.2 4 _ rfl
 have c1_0_5:=b1_0.2 5 _ rfl
 have c1_0_6:=b1_0.2 6 _ rfl
 have c1_0_7:=b1_0.2 7 _ rfl
 have c1_0_8:=b1_0.2 8 _ rfl
 have c1_0_9:=b1_0.2 9 _ rfl
 have c1_0_10:=b1_0.2 10 _ rfl
 have ca1:=a1.2
 have CN:=qH (text_lit p B [x3] L1 w1 s1.buf (by simp) (by intro n hn; simp only [List.mem_cons,List.not_mem_nil,or_false] at hn; rcases hn with rfl <;> assumption) hB1 (by rw [<- hL2]; exact hz1))
 rw [<- hL2] at CN
 go_wp2_with fail
 refine CN.out.mono ?_
 rintro e w2 ⟨rfl,s2,q2⟩
 have k2:=k1.trans q2
 have hB2:B≤w2.heap.size:=Nat.le_trans hB1 q2.size
 have b2_0:=b1_0.kp q2
 have a2:=a1.kp q2
 clear CN q2 s1 k1 hB1 b1_0 c1_0_0 c1_0_1 c1_0_2 c1_0_3 c1_0_4 c1_0_5 c1_0_6 c1_0_7 c1_0_8 c1_0_9 c1_0_10 a1 ca1
 have c2_0_0:=b2_0.2 0 _ rfl
 have c2_0_1:=b2_0.2 1 _ rfl
 have c2_0_2:=b2_0.2 2 _ rfl
 have c2_0_3:=b2_0.2 3 _ rfl
 have c2_0_4:=b2_0.2 4 _ rfl
 have c2_0_5:=b2_0.2 5 _ rfl
 have c2_0_6:=b2_0.2 6 _ rfl
 have c2_0_7:=b2_0.2 7 _ rfl
 have c2_0_8:=b2_0.2 8 _ rfl
 have c2_0_9:=b2_0.2 9 _ rfl
 have c2_0_10:=b2_0.2 10 _ rfl
 have ca2:=a2.2
 have CN:=qH (w_head p B L2 G w2 [h0,h1,h2,h3,h4] x4 s2.buf hG hB2 (ay _ _ _ _ _ _ (fun _ h => h) (fun b hb _ => ((HBel.out w2 k2)).block b (hG b hb)) th) (by rw [<- hL3]; exact hz2))
 rw [<- hL3] at CN
 go_wp2_with fail
 refine CN.out.mono ?_
 rintro e w3 ⟨rfl,s3,q3⟩
 have k3:=k2.trans q3
 have hB3:B≤w3.heap.size:=Nat.le_trans hB2 q3.size
 have b3_0:=b2_0.kp q3
 have a3:=a2.kp q3
 clear CN q3 s2 k2 hB2 b2_0 c2_0_0 c2_0_1 c2_0_2 c2_0_3 c2_0_4 c2_0_5 c2_0_6 c2_0_7 c2_0_8 c2_0_9 c2_0_10 a2 ca2
 have c3_0_0:=b3_0.2 0 _ rfl
 have c3_0_1:=b3_0.2 1 _ rfl
 have c3_0_2:=b3_0.2 2 _ rfl
 have c3_0_3:=b3_0.2 3 _ rfl
 have c3_0_4:=b3_0.2 4 _ rfl
 have c3_0_5:=b3_0.2 5 _ rfl
 have c3_0_6:=b3_0.2 6 _ rfl
 have c3_0_7:=b3_0.2 7 _ rfl
 have c3_0_8:=b3_0.2 8 _ rfl
 have c3_0_9:=b3_0.2 9 _ rfl
 have c3_0_10:=b3_0.2 10 _ rfl
 have ca3:=a3.2
 have CN:=qH (HI p B L3 G w3 _ x5 s3.buf hG hB3 (t0.below hSt hG (HBel.out w3 k3)) (by rw [<- hL4]; exact hz3))
 rw [<- hL4] at CN
 go_wp2_with fail
 refine CN.out.mono ?_
 rintro e w4 ⟨rfl,s4,q4⟩
 have k4:=k3.trans q4
 have hB4:B≤w4.heap.size:=Nat.le_trans hB3 q4.size
 have b4_0:=b3_0.kp q4
 have a4:=a3.kp q4
 clear CN q4 s3 k3 hB3 b3_0 c3_0_0 c3_0_1 c3_0_2 c3_0_3 c3_0_4 c3_0_5 c3_0_6 c3_0_7 c3_0_8 c3_0_9 c3_0_10 a3 ca3
 have c4_0_0:=b4_0.2 0 _ rfl
 have c4_0_1:=b4_0.2 1 _ rfl
 have c4_0_2:=b4_0.2 2 _ rfl
 have c4_0_3:=b4_0.2 3 _ rfl
 have c4_0_4:=b4_0.2 4 _ rfl
 have c4_0_5:=b4_0.2 5 _ rfl
 have c4_0_6:=b4_0.2 6 _ rfl
 have c4_0_7:=b4_0.2 7 _ rfl
 have c4_0_8:=b4_0.2 8 _ rfl
 have c4_0_9:=b4_0.2 9 _ rfl
 have c4_0_10:=b4_0.2 10 _ rfl
 have ca4:=a4.2
 have CN:=qH (w_rows R enc hSt HI p B L4 G w4 _ x6 s4.buf hG hB4 (t1.below (bs hSt) hG (HBel.out w4 k4)) (by rw [<- hL5]; exact hsz))
 rw [<- hL5] at CN
 go_wp2_with fail
 refine CN.out.mono ?_
 rintro e w5 ⟨rfl,s5,q5⟩
 have k5:=k4.trans q5
 have hB5:B≤w5.heap.size:=Nat.le_trans hB4 q5.size
 have b5_0:=b4_0.kp q5
 have a5:=a4.kp q5
 clear CN q5 s4 k4 hB4 b4_0 c4_0_0 c4_0_1 c4_0_2 c4_0_3 c4_0_4 c4_0_5 c4_0_6 c4_0_7 c4_0_8 c4_0_9 c4_0_10 a4 ca4
 go_wp2_with fail
 go_end0
 exact ⟨rfl,s5,k5⟩
theorem w_items_step {α:Type} (R:Rp α) (enc:α→List Nat) (hSt:Stb R) (HI:ItemsC R enc) (p B:Nat) (L:List Nat) (G:Nat→Prop) (w:World) (v:Value) (l:List (ItS α)) (hw:WrSB p B w L) (hG:∀ b,G b→b < B) (hB:B≤w.heap.size) (hv:Slv (isP R) 11 w G v l) (hsz:(L++ak (isE enc) l).length≤1099511627776) :
  Calls Tryz.prog 53 #[.pointer (some ⟨p,0,none⟩),v] w (WrE p B w (L++ak (isE enc) l)):=by
 obtain ⟨A,cp,hsl,_,_⟩:=hv.shape
 subst hsl
 have hE:L++ak (isE enc) l = L++ak (isE enc) l:=rfl
 rw [hE] at hsz ⊢
 clear hE
 obtain ⟨L1,hL1⟩:=gX (L++ak (isE enc) l)
 rw [<- hL1] at hsz ⊢
 have hp:=hw.lt
 have s0:WrSB p B (w.alloc (.cells #[.pointer (some ⟨p,0,none⟩)] 131)) L:=(hw.alloc _)
 have k0:Kp p w (w.alloc (.cells #[.pointer (some ⟨p,0,none⟩)] 131)):=((Kp.refl p w).alloc (by first | exact hp | (simp; omega)) _)
 have b0_0:Blk p w.heap.size [.pointer (some ⟨p,0,none⟩)] (w.alloc (.cells #[.pointer (some ⟨p,0,none⟩)] 131)):=(Blk.new (w:=w) hw [.pointer (some ⟨p,0,none⟩)] 131)
 have hB0:B≤((w.alloc (.cells #[.pointer (some ⟨p,0,none⟩)] 131))).heap.size:=by simp; omega
 have HBel:=qH (fun (w2:World) (h:Kp p w w2) => h.below hw)
 clear hw
 go_enter Tryz.func53,Tryz.ntmps53
 go_upto_region 1 with fail
 obtain ⟨w0,hw0⟩:=gX ((w.alloc (.cells #[.pointer (some ⟨p,0,none⟩)] 131)))
 rw [<- hw0] at s0 k0 hB0 b0_0 ⊢
 clear hw0
 have c0_0_0:=b0_0.2 0 _ rfl
 have CN:=qH (put114 (isP R) (isE enc) p B w.heap.size _ _ _ l L G w0 s0 (hv.below (stb_is hSt) hG (HBel.out w0 k0)) (stb_is hSt) one_is hG (b0_0.at 0 _ rfl) hB0 (by rw [<- hL1]; exact hsz) (fun wr vs x L2 hm hR hs ha hb hz => w115 R enc hSt HI p B _ L2 G wr vs x hs.buf hG hb ha hR hz))
 rw [<- hL1] at CN
 go_wp2_with fail
 refine CN.out.mono ?_
 rintro e w1 ⟨rfl,s1,q1⟩
 have k1:=k0.trans q1
 have hB1:B≤w1.heap.size:=Nat.le_trans hB0 q1.size
 have b1_0:=b0_0.kp q1
 clear CN q1 s0 k0 hB0 b0_0 c0_0_0
 go_wp2_with fail
 go_end0
 exact ⟨rfl,s1,k1⟩
theorem w_items_none (p B:Nat) (L:List Nat) (G:Nat→Prop) (w:World) (v:Value) (l:List Empty) (hw:WrSB p B w L) (hG:∀ b,G b→b < B) (hB:B≤w.heap.size) (R:Rp Empty) (hSt:Stb R) (hO:One R) (hv:Slv R 11 w G v l) (hsz:(L++ak (fun x => Empty.elim x) l).length≤1099511627776) :
  Calls Tryz.prog 53 #[.pointer (some ⟨p,0,none⟩),v] w (WrE p B w (L++ak (fun x => Empty.elim x) l)):=by
 obtain ⟨A,cp,hsl,_,_⟩:=hv.shape
 subst hsl
 have hE:L++ak (fun x => Empty.elim x) l = L++ak (fun x => Empty.elim x) l:=rfl
 rw [hE] at hsz ⊢
 clear hE
 obtain ⟨L1,hL1⟩:=gX (L++ak (fun x => Empty.elim x) l)
 rw [<- hL1] at hsz ⊢
 have hp:=hw.lt
 have s0:WrSB p B (w.alloc (.cells #[.pointer (some ⟨p,0,none⟩)] 131)) L:=(hw.alloc _)
 have k0:Kp p w (w.alloc (.cells #[.pointer (some ⟨p,0,none⟩)] 131)):=((Kp.refl p w).alloc (by first | exact hp | (simp; omega)) _)
 have b0_0:Blk p w.heap.size [.pointer (some ⟨p,0,none⟩)] (w.alloc (.cells #[.pointer (some ⟨p,0,none⟩)] 131)):=(Blk.new (w:=w) hw [.pointer (some ⟨p,0,none⟩)] 131)
 have hB0:B≤((w.alloc (.cells #[.pointer (some ⟨p,0,none⟩)] 131))).heap.size:=by simp; omega
 have HBel:=qH (fun (w2:World) (h:Kp p w w2) => h.below hw)
 clear hw
 go_enter Tryz.func53,Tryz.ntmps53
 go_upto_region 1 with fail
 obtain ⟨w0,hw0⟩:=gX ((w.alloc (.cells #[.pointer (some ⟨p,0,none⟩)] 131)))
 rw [<- hw0] at s0 k0 hB0 b0_0 ⊢
 clear hw0
 have c0_0_0:=b0_0.2 0 _ rfl
 have CN:=qH (put114 R (fun x => Empty.elim x) p B w.heap.size _ _ _ l L G w0 s0 (hv.below hSt hG (HBel.out w0 k0)) hSt hO hG (b0_0.at 0 _ rfl) hB0 (by rw [<- hL1]; exact hsz) (fun wr vs x L2 hm hR hs ha hb hz => Empty.elim x))
 rw [<- hL1] at CN
 go_wp2_with fail
 refine CN.out.mono ?_
 rintro e w1 ⟨rfl,s1,q1⟩
 have k1:=k0.trans q1
 have hB1:B≤w1.heap.size:=Nat.le_trans hB0 q1.size
 have b1_0:=b0_0.kp q1
 clear CN q1 s0 k0 hB0 b0_0 c0_0_0
 go_wp2_with fail
 go_end0
 exact ⟨rfl,s1,k1⟩
theorem w_items:∀ n,ItemsC (itP n) (itE n)
 | 0 => fun p B L G w v l hw hG hB hv hz => by
  have e:l = []:=by
   cases l with
   | nil => rfl
   | cons x _ => exact Empty.elim x
  subst e
  exact w_items_none p B L G w v [] hw hG hB (itP 0) (aV 0) (one_it 0) hv hz
 | n + 1 => fun p B L G w v l hw hG hB hv hz => w_items_step (itP n) (itE n) (aV n) (w_items n) p B L G w v l hw hG hB hv hz
end Go.Proofs.YtmhhcfceikcfbaaGreat
