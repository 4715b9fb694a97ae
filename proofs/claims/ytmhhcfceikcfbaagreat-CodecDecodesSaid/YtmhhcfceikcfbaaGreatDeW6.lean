/- Walks: the writers of flat records. -/
import Derived.Deep.Cut
import Derived.Test.YtmhhcfceikcfbaaGreatDeW4
import Derived.Test.YtmhhcfceikcfbaaGreatDeW5
namespace Go.Proofs.YtmhhcfceikcfbaaGreat
open Go.RowKit
set_option maxRecDepth 100000
set_option maxHeartbeats 4000000
def Blk (p g:Nat) (vs:List Value) (w:World):Prop:=Off p g w∧∀ (j:Nat) (u:Value),vs[j]? = some u→w.cell? ⟨g,j,none⟩ = some u
theorem Blk.kp {p g:Nat} {vs:List Value} {w w':World} (h:Blk p g vs w) (k:Kp p w w'):Blk p g vs w' :=
 ⟨(h.1.kp k).1,fun j u hu => (World.cell?_of_block (h.1.kp k).2).trans (h.2 j u hu)⟩
theorem Blk.alloc {p g:Nat} {vs:List Value} {w:World} (h:Blk p g vs w) (hp:p < w.heap.size) (o:Obj):Blk p g vs (w.alloc o) :=
 ⟨h.1.alloc hp o,fun j u hu => (World.cell?_of_block (a:=⟨g,j,none⟩) (Below.heap_alloc w o g h.1.1)).trans (h.2 j u hu)⟩
theorem Blk.at {p g:Nat} {vs:List Value} {w:World} (h:Blk p g vs w) (j:Nat) (u:Value) (hu:vs[j]? = some u):At p ⟨g,j,none⟩ u w:=⟨h.1,h.2 j u hu⟩
theorem Blk.new {p B:Nat} {w:World} {L:List Nat} (h:WrSB p B w L) (vs:List Value) (t:TypeId):Blk p w.heap.size vs (w.alloc (.cells vs.toArray t)) :=
 ⟨h.off_new _,fun j u hu => by rw [World.cell?_alloc_new]; simpa using hu⟩
theorem w194 (p B c:Nat) (L:List Nat) (G:Nat→Prop) (w:World) (vs:List Value) (x:Two) (hw:WrSB p B w L) (_hG:∀ b,G b→b < B) (hB:B≤w.heap.size) (hc:At p ⟨c,0,none⟩ (.pointer (some ⟨p,0,none⟩)) w) (hR:twoP w G vs x) (hsz:(L++twoE x).length≤1099511627776) :
  Calls Tryz.prog 194 #[.agg vs.toArray,.pointer (some ⟨c,0,none⟩)] w (WrE p B w (L++twoE x)):=by
 obtain ⟨rfl,i0,i1⟩:=hR
 obtain ⟨x0,x1⟩:=x
 simp only at i0 i1
 have hE:L++twoE (x0,x1) = L++[x0,x1].flatMap encN:=by simp only [twoE,seqE,List.flatMap_cons,List.flatMap_nil,List.append_nil]
 rw [hE] at hsz ⊢
 clear hE
 obtain ⟨L1,hL1⟩:=gX (L++[x0,x1].flatMap encN)
 rw [<- hL1] at hsz ⊢
 have hp:=hw.lt
 have s0:WrSB p B (w.alloc (.cells #[.int .i64 x0,.int .i64 x1] 187)) L:=(hw.alloc _)
 have k0:Kp p w (w.alloc (.cells #[.int .i64 x0,.int .i64 x1] 187)):=((Kp.refl p w).alloc (by first | exact hp | (simp; omega)) _)
 have b0_0:Blk p w.heap.size [.int .i64 x0,.int .i64 x1] (w.alloc (.cells #[.int .i64 x0,.int .i64 x1] 187)):=(Blk.new (w:=w) hw [.int .i64 x0,.int .i64 x1] 187)
 have a0:At p ⟨c,0,none⟩ (.pointer (some ⟨p,0,none⟩)) (w.alloc (.cells #[.int .i64 x0,.int .i64 x1] 187)):=(hc.alloc (by first | exact hp | (simp; omega)) _)
 have hB0:B≤((w.alloc (.cells #[.int .i64 x0,.int .i64 x1] 187))).heap.size:=by simp; omega
 have HBel:=qH (fun (w2:World) (h:Kp p w w2) => h.below hw)
 clear hw
 go_enter Tryz.func194,Tryz.ntmps194
 go_upto_region 1 with fail
 obtain ⟨w0,hw0⟩:=gX ((w.alloc (.cells #[.int .i64 x0,.int .i64 x1] 187)))
 rw [<- hw0] at s0 k0 hB0 b0_0 a0 ⊢
 clear hw0
 have c0_0_0:=b0_0.2 0 _ rfl
 have c0_0_1:=b0_0.2 1 _ rfl
 have ca0:=a0.2
 have CN:=qH (aH p B [x0,x1] L w0 s0 (by simp) (by intro n hn; simp only [List.mem_cons,List.not_mem_nil,or_false] at hn; rcases hn with rfl | rfl <;> assumption) hB0 (by rw [<- hL1]; exact hsz))
 rw [<- hL1] at CN
 go_wp2_with fail
 refine CN.out.mono ?_
 rintro e w1 ⟨rfl,s1,q1⟩
 have k1:=k0.trans q1
 have hB1:B≤w1.heap.size:=Nat.le_trans hB0 q1.size
 have b1_0:=b0_0.kp q1
 have a1:=a0.kp q1
 clear CN q1 s0 k0 hB0 b0_0 c0_0_0 c0_0_1 a0 ca0
 go_wp2_with fail
 go_end0
 exact ⟨rfl,s1,k1⟩
theorem w119 (p B c:Nat) (L:List Nat) (G:Nat→Prop) (w:World) (vs:List Value) (x:Two) (hw:WrSB p B w L) (_hG:∀ b,G b→b < B) (hB:B≤w.heap.size) (hc:At p ⟨c,0,none⟩ (.pointer (some ⟨p,0,none⟩)) w) (hR:twoP w G vs x) (hsz:(L++twoE x).length≤1099511627776) :
  Calls Tryz.prog 119 #[.agg vs.toArray,.pointer (some ⟨c,0,none⟩)] w (WrE p B w (L++twoE x)):=by
 obtain ⟨rfl,i0,i1⟩:=hR
 obtain ⟨x0,x1⟩:=x
 simp only at i0 i1
 have hE:L++twoE (x0,x1) = L++[x0,x1].flatMap encN:=by simp only [twoE,seqE,List.flatMap_cons,List.flatMap_nil,List.append_nil]
 rw [hE] at hsz ⊢
 clear hE
 obtain ⟨L1,hL1⟩:=gX (L++[x0,x1].flatMap encN)
 rw [<- hL1] at hsz ⊢
 have hp:=hw.lt
 have s0:WrSB p B (w.alloc (.cells #[.int .i64 x0,.int .i64 x1] 190)) L:=(hw.alloc _)
 have k0:Kp p w (w.alloc (.cells #[.int .i64 x0,.int .i64 x1] 190)):=((Kp.refl p w).alloc (by first | exact hp | (simp; omega)) _)
 have b0_0:Blk p w.heap.size [.int .i64 x0,.int .i64 x1] (w.alloc (.cells #[.int .i64 x0,.int .i64 x1] 190)):=(Blk.new (w:=w) hw [.int .i64 x0,.int .i64 x1] 190)
 have a0:At p ⟨c,0,none⟩ (.pointer (some ⟨p,0,none⟩)) (w.alloc (.cells #[.int .i64 x0,.int .i64 x1] 190)):=(hc.alloc (by first | exact hp | (simp; omega)) _)
 have hB0:B≤((w.alloc (.cells #[.int .i64 x0,.int .i64 x1] 190))).heap.size:=by simp; omega
 have HBel:=qH (fun (w2:World) (h:Kp p w w2) => h.below hw)
 clear hw
 go_enter Tryz.func119,Tryz.ntmps119
 go_upto_region 1 with fail
 obtain ⟨w0,hw0⟩:=gX ((w.alloc (.cells #[.int .i64 x0,.int .i64 x1] 190)))
 rw [<- hw0] at s0 k0 hB0 b0_0 a0 ⊢
 clear hw0
 have c0_0_0:=b0_0.2 0 _ rfl
 have c0_0_1:=b0_0.2 1 _ rfl
 have ca0:=a0.2
 have CN:=qH (aH p B [x0,x1] L w0 s0 (by simp) (by intro n hn; simp only [List.mem_cons,List.not_mem_nil,or_false] at hn; rcases hn with rfl | rfl <;> assumption) hB0 (by rw [<- hL1]; exact hsz))
 rw [<- hL1] at CN
 go_wp2_with fail
 refine CN.out.mono ?_
 rintro e w1 ⟨rfl,s1,q1⟩
 have k1:=k0.trans q1
 have hB1:B≤w1.heap.size:=Nat.le_trans hB0 q1.size
 have b1_0:=b0_0.kp q1
 have a1:=a0.kp q1
 clear CN q1 s0 k0 hB0 b0_0 c0_0_0 c0_0_1 a0 ca0
 go_wp2_with fail
 go_end0
 exact ⟨rfl,s1,k1⟩
theorem w121 (p B c:Nat) (L:List Nat) (G:Nat→Prop) (w:World) (vs:List Value) (x:Lay) (hw:WrSB p B w L) (_hG:∀ b,G b→b < B) (hB:B≤w.heap.size) (hc:At p ⟨c,0,none⟩ (.pointer (some ⟨p,0,none⟩)) w) (hR:layP w G vs x) (hsz:(L++layE x).length≤1099511627776) :
  Calls Tryz.prog 121 #[.agg vs.toArray,.pointer (some ⟨c,0,none⟩)] w (WrE p B w (L++layE x)):=by
 obtain ⟨rfl,i0,i1,i2,_⟩:=hR
 obtain ⟨x0,x1,x2,x3⟩:=x
 simp only at i0 i1 i2
 have hE:L++layE (x0,x1,x2,x3) = L++[x0,x1,x2].flatMap encN++flagE x3:=by simp only [layE,seqE,List.append_assoc,List.flatMap_cons,List.flatMap_nil,List.append_nil]
 rw [hE] at hsz ⊢
 clear hE
 have hz0:(L++[x0,x1,x2].flatMap encN).length≤1099511627776:=by
  have h9:=hsz
  rw [List.length_append] at h9
  omega
 obtain ⟨L1,hL1⟩:=gX (L++[x0,x1,x2].flatMap encN)
 rw [<- hL1] at hz0 hsz ⊢
 obtain ⟨L2,hL2⟩:=gX (L1++flagE x3)
 rw [<- hL2] at hsz ⊢
 have hp:=hw.lt
 have s0:WrSB p B (w.alloc (.cells #[.int .i64 x0,.int .i64 x1,.int .i64 x2,.bool x3] 201)) L:=(hw.alloc _)
 have k0:Kp p w (w.alloc (.cells #[.int .i64 x0,.int .i64 x1,.int .i64 x2,.bool x3] 201)):=((Kp.refl p w).alloc (by first | exact hp | (simp; omega)) _)
 have b0_0:Blk p w.heap.size [.int .i64 x0,.int .i64 x1,.int .i64 x2,.bool x3] (w.alloc (.cells #[.int .i64 x0,.int .i64 x1,.int .i64 x2,.bool x3] 201)):=(Blk.new (w:=w) hw [.int .i64 x0,.int .i64 x1,.int .i64 x2,.bool x3] 201)
 have a0:At p ⟨c,0,none⟩ (.pointer (some ⟨p,0,none⟩)) (w.alloc (.cells #[.int .i64 x0,.int .i64 x1,.int .i64 x2,.bool x3] 201)):=(hc.alloc (by first | exact hp | (simp; omega)) _)
 have hB0:B≤((w.alloc (.cells #[.int .i64 x0,.int .i64 x1,.int .i64 x2,.bool x3] 201))).heap.size:=by simp; omega
 have HBel:=qH (fun (w2:World) (h:Kp p w w2) => h.below hw)
 clear hw
 go_enter Tryz.func121,Tryz.ntmps121
 go_upto_region 1 with fail
 obtain ⟨w0,hw0⟩:=gX ((w.alloc (.cells #[.int .i64 x0,.int .i64 x1,.int .i64 x2,.bool x3] 201)))
 rw [<- hw0] at s0 k0 hB0 b0_0 a0 ⊢
 clear hw0
 have c0_0_0:=b0_0.2 0 _ rfl
 have c0_0_1:=b0_0.2 1 _ rfl
 have c0_0_2:=b0_0.2 2 _ rfl
 have c0_0_3:=b0_0.2 3 _ rfl
 have ca0:=a0.2
 have CN:=qH (aH p B [x0,x1,x2] L w0 s0 (by simp) (by intro n hn; simp only [List.mem_cons,List.not_mem_nil,or_false] at hn; rcases hn with rfl | rfl | rfl <;> assumption) hB0 (by rw [<- hL1]; exact hz0))
 rw [<- hL1] at CN
 go_wp2_with fail
 refine CN.out.mono ?_
 rintro e w1 ⟨rfl,s1,q1⟩
 have k1:=k0.trans q1
 have hB1:B≤w1.heap.size:=Nat.le_trans hB0 q1.size
 have b1_0:=b0_0.kp q1
 have a1:=a0.kp q1
 clear CN q1 s0 k0 hB0 b0_0 c0_0_0 c0_0_1 c0_0_2 c0_0_3 a0 ca0
 have c1_0_0:=b1_0.2 0 _ rfl
 have c1_0_1:=b1_0.2 1 _ rfl
 have c1_0_2:=b1_0.2 2 _ rfl
 have c1_0_3:=b1_0.2 3 _ rfl
 have ca1:=a1.2
 have CN:=qH (boolean_lib p B x3 L1 w1 s1.buf hB1 (by rw [<- hL2]; exact hsz))
 rw [<- hL2] at CN
 go_wp2_with fail
 refine CN.out.mono ?_
 rintro e w2 ⟨rfl,s2,q2⟩
 have k2:=k1.trans q2
 have hB2:B≤w2.heap.size:=Nat.le_trans hB1 q2.size
 have b2_0:=b1_0.kp q2
 have a2:=a1.kp q2
 clear CN q2 s1 k1 hB1 b1_0 c1_0_0 c1_0_1 c1_0_2 c1_0_3 a1 ca1
 go_wp2_with fail
 go_end0
 exact ⟨rfl,s2,k2⟩
theorem w123 (p B c:Nat) (L:List Nat) (G:Nat→Prop) (w:World) (vs:List Value) (x:Rev) (hw:WrSB p B w L) (_hG:∀ b,G b→b < B) (hB:B≤w.heap.size) (hc:At p ⟨c,0,none⟩ (.pointer (some ⟨p,0,none⟩)) w) (hR:revP w G vs x) (hsz:(L++revE x).length≤1099511627776) :
  Calls Tryz.prog 123 #[.agg vs.toArray,.pointer (some ⟨c,0,none⟩)] w (WrE p B w (L++revE x)):=by
 obtain ⟨rfl,i0,i1,i2⟩:=hR
 obtain ⟨x0,x1,x2⟩:=x
 simp only at i0 i1 i2
 have hE:L++revE (x0,x1,x2) = L++[x0].flatMap encN++[x1].flatMap strE++[x2].flatMap encN:=by simp only [revE,seqE,List.append_assoc,List.flatMap_cons,List.flatMap_nil,List.append_nil]
 rw [hE] at hsz ⊢
 clear hE
 have hz1:(L++[x0].flatMap encN++[x1].flatMap strE).length≤1099511627776:=by
  have h9:=hsz
  rw [List.length_append] at h9
  omega
 have hz0:(L++[x0].flatMap encN).length≤1099511627776:=by
  have h9:=hz1
  rw [List.length_append] at h9
  omega
 obtain ⟨L1,hL1⟩:=gX (L++[x0].flatMap encN)
 rw [<- hL1] at hz0 hz1 hsz ⊢
 obtain ⟨L2,hL2⟩:=gX (L1++[x1].flatMap strE)
 rw [<- hL2] at hz1 hsz ⊢
 obtain ⟨L3,hL3⟩:=gX (L2++[x2].flatMap encN)
 rw [<- hL3] at hsz ⊢
 have hp:=hw.lt
 have s0:WrSB p B (w.alloc (.cells #[.int .i64 x0,.string x1,.int .i64 x2] 141)) L:=(hw.alloc _)
 have k0:Kp p w (w.alloc (.cells #[.int .i64 x0,.string x1,.int .i64 x2] 141)):=((Kp.refl p w).alloc (by first | exact hp | (simp; omega)) _)
 have b0_0:Blk p w.heap.size [.int .i64 x0,.string x1,.int .i64 x2] (w.alloc (.cells #[.int .i64 x0,.string x1,.int .i64 x2] 141)):=(Blk.new (w:=w) hw [.int .i64 x0,.string x1,.int .i64 x2] 141)
 have a0:At p ⟨c,0,none⟩ (.pointer (some ⟨p,0,none⟩)) (w.alloc (.cells #[.int .i64 x0,.string x1,.int .i64 x2] 141)):=(hc.alloc (by first | exact hp | (simp; omega)) _)
 have hB0:B≤((w.alloc (.cells #[.int .i64 x0,.string x1,.int .i64 x2] 141))).heap.size:=by simp; omega
 have HBel:=qH (fun (w2:World) (h:Kp p w w2) => h.below hw)
 clear hw
 go_enter Tryz.func123,Tryz.ntmps123
 go_upto_region 1 with fail
 obtain ⟨w0,hw0⟩:=gX ((w.alloc (.cells #[.int .i64 x0,.string x1,.int .i64 x2] 141)))
 rw [<- hw0] at s0 k0 hB0 b0_0 a0 ⊢
 clear hw0
 have c0_0_0:=b0_0.2 0 _ rfl
 have c0_0_1:=b0_0.2 1 _ rfl
 have c0_0_2:=b0_0.2 2 _ rfl
 have ca0:=a0.2
 have CN:=qH (aH p B [x0] L w0 s0 (by simp) (by intro n hn; simp only [List.mem_cons,List.not_mem_nil,or_false] at hn; rcases hn with rfl <;> assumption) hB0 (by rw [<- hL1]; exact hz0))
 rw [<- hL1] at CN
 go_wp2_with fail
 refine CN.out.mono ?_
 rintro e w1 ⟨rfl,s1,q1⟩
 have k1:=k0.trans q1
 have hB1:B≤w1.heap.size:=Nat.le_trans hB0 q1.size
 have b1_0:=b0_0.kp q1
 have a1:=a0.kp q1
 clear CN q1 s0 k0 hB0 b0_0 c0_0_0 c0_0_1 c0_0_2 a0 ca0
 have c1_0_0:=b1_0.2 0 _ rfl
 have c1_0_1:=b1_0.2 1 _ rfl
 have c1_0_2:=b1_0.2 2 _ rfl
 have ca1:=a1.2
 have CN:=qH (text_lit p B [x1] L1 w1 s1.buf (by simp) (by intro n hn; simp only [List.mem_cons,List.not_mem_nil,or_false] at hn; rcases hn with rfl <;> assumption) hB1 (by rw [<- hL2]; exact hz1))
 rw [<- hL2] at CN
 go_wp2_with fail
 refine CN.out.mono ?_
 rintro e w2 ⟨rfl,s2,q2⟩
 have k2:=k1.trans q2
 have hB2:B≤w2.heap.size:=Nat.le_trans hB1 q2.size
 have b2_0:=b1_0.kp q2
 have a2:=a1.kp q2
 clear CN q2 s1 k1 hB1 b1_0 c1_0_0 c1_0_1 c1_0_2 a1 ca1
 have c2_0_0:=b2_0.2 0 _ rfl
 have c2_0_1:=b2_0.2 1 _ rfl
 have c2_0_2:=b2_0.2 2 _ rfl
 have ca2:=a2.2
 have CN:=qH (aH p B [x2] L2 w2 s2.buf (by simp) (by intro n hn; simp only [List.mem_cons,List.not_mem_nil,or_false] at hn; rcases hn with rfl <;> assumption) hB2 (by rw [<- hL3]; exact hsz))
 rw [<- hL3] at CN
 go_wp2_with fail
 refine CN.out.mono ?_
 rintro e w3 ⟨rfl,s3,q3⟩
 have k3:=k2.trans q3
 have hB3:B≤w3.heap.size:=Nat.le_trans hB2 q3.size
 have b3_0:=b2_0.kp q3
 have a3:=a2.kp q3
 clear CN q3 s2 k2 hB2 b2_0 c2_0_0 c2_0_1 c2_0_2 a2 ca2
 go_wp2_with fail
 go_end0
 exact ⟨rfl,s3,k3⟩
theorem w129 (p B c:Nat) (L:List Nat) (G:Nat→Prop) (w:World) (vs:List Value) (x:Lvl) (hw:WrSB p B w L) (_hG:∀ b,G b→b < B) (hB:B≤w.heap.size) (hc:At p ⟨c,0,none⟩ (.pointer (some ⟨p,0,none⟩)) w) (hR:lvlP w G vs x) (hsz:(L++lvlE x).length≤1099511627776) :
  Calls Tryz.prog 129 #[.agg vs.toArray,.pointer (some ⟨c,0,none⟩)] w (WrE p B w (L++lvlE x)):=by
 obtain ⟨rfl,i0,i1,i2,i3⟩:=hR
 obtain ⟨x0,x1,x2,x3⟩:=x
 simp only at i0 i1 i2 i3
 have hE:L++lvlE (x0,x1,x2,x3) = L++[x0,x1].flatMap encN++[x2].flatMap strE++[x3].flatMap encN:=by simp only [lvlE,seqE,List.append_assoc,List.flatMap_cons,List.flatMap_nil,List.append_nil]
 rw [hE] at hsz ⊢
 clear hE
 have hz1:(L++[x0,x1].flatMap encN++[x2].flatMap strE).length≤1099511627776:=by
  have h9:=hsz
  rw [List.length_append] at h9
  omega
 have hz0:(L++[x0,x1].flatMap encN).length≤1099511627776:=by
  have h9:=hz1
  rw [List.length_append] at h9
  omega
 obtain ⟨L1,hL1⟩:=gX (L++[x0,x1].flatMap encN)
 rw [<- hL1] at hz0 hz1 hsz ⊢
 obtain ⟨L2,hL2⟩:=gX (L1++[x2].flatMap strE)
 rw [<- hL2] at hz1 hsz ⊢
 obtain ⟨L3,hL3⟩:=gX (L2++[x3].flatMap encN)
 rw [<- hL3] at hsz ⊢
 have hp:=hw.lt
 have s0:WrSB p B (w.alloc (.cells #[.int .i64 x0,.int .i64 x1,.string x2,.int .i64 x3] 112)) L:=(hw.alloc _)
 have k0:Kp p w (w.alloc (.cells #[.int .i64 x0,.int .i64 x1,.string x2,.int .i64 x3] 112)):=((Kp.refl p w).alloc (by first | exact hp | (simp; omega)) _)
 have b0_0:Blk p w.heap.size [.int .i64 x0,.int .i64 x1,.string x2,.int .i64 x3] (w.alloc (.cells #[.int .i64 x0,.int .i64 x1,.string x2,.int .i64 x3] 112)):=(Blk.new (w:=w) hw [.int .i64 x0,.int .i64 x1,.string x2,.int .i64 x3] 112)
 have a0:At p ⟨c,0,none⟩ (.pointer (some ⟨p,0,none⟩)) (w.alloc (.cells #[.int .i64 x0,.int .i64 x1,.string x2,.int .i64 x3] 112)):=(hc.alloc (by first | exact hp | (simp; omega)) _)
 have hB0:B≤((w.alloc (.cells #[.int .i64 x0,.int .i64 x1,.string x2,.int .i64 x3] 112))).heap.size:=by simp; omega
 have HBel:=qH (fun (w2:World) (h:Kp p w w2) => h.below hw)
 clear hw
 go_enter Tryz.func129,Tryz.ntmps129
 go_upto_region 1 with fail
 obtain ⟨w0,hw0⟩:=gX ((w.alloc (.cells #[.int .i64 x0,.int .i64 x1,.string x2,.int .i64 x3] 112)))
 rw [<- hw0] at s0 k0 hB0 b0_0 a0 ⊢
 clear hw0
 have c0_0_0:=b0_0.2 0 _ rfl
 have c0_0_1:=b0_0.2 1 _ rfl
 have c0_0_2:=b0_0.2 2 _ rfl
 have c0_0_3:=b0_0.2 3 _ rfl
 have ca0:=a0.2
 have CN:=qH (aH p B [x0,x1] L w0 s0 (by simp) (by intro n hn; simp only [List.mem_cons,List.not_mem_nil,or_false] at hn; rcases hn with rfl | rfl <;> assumption) hB0 (by rw [<- hL1]; exact hz0))
 rw [<- hL1] at CN
 go_wp2_with fail
 refine CN.out.mono ?_
 rintro e w1 ⟨rfl,s1,q1⟩
 have k1:=k0.trans q1
 have hB1:B≤w1.heap.size:=Nat.le_trans hB0 q1.size
 have b1_0:=b0_0.kp q1
 have a1:=a0.kp q1
 clear CN q1 s0 k0 hB0 b0_0 c0_0_0 c0_0_1 c0_0_2 c0_0_3 a0 ca0
 have c1_0_0:=b1_0.2 0 _ rfl
 have c1_0_1:=b1_0.2 1 _ rfl
 have c1_0_2:=b1_0.2 2 _ rfl
 have c1_0_3:=b1_0.2 3 _ rfl
 have ca1:=a1.2
 have CN:=qH (text_lit p B [x2] L1 w1 s1.buf (by simp) (by intro n hn; simp only [List.mem_cons,List.not_mem_nil,or_false] at hn; rcases hn with rfl <;> assumption) hB1 (by rw [<- hL2]; exact hz1))
 rw [<- hL2] at CN
 go_wp2_with fail
 refine CN.out.mono ?_
 rintro e w2 ⟨rfl,s2,q2⟩
 have k2:=k1.trans q2
 have hB2:B≤w2.heap.size:=Nat.le_trans hB1 q2.size
 have b2_0:=b1_0.kp q2
 have a2:=a1.kp q2
 clear CN q2 s1 k1 hB1 b1_0 c1_0_0 c1_0_1 c1_0_2 c1_0_3 a1 ca1
 have c2_0_0:=b2_0.2 0 _ rfl
 have c2_0_1:=b2_0.2 1 _ rfl
 have c2_0_2:=b2_0.2 2 _ rfl
 have c2_0_3:=b2_0.2 3 _ rfl
 have ca2:=a2.2
 have CN:=qH (aH p B [x3] L2 w2 s2.buf (by simp) (by intro n hn; simp only [List.mem_cons,List.not_mem_nil,or_false] at hn; rcases hn with rfl <;> assumption) hB2 (by rw [<- hL3]; exact hsz))
 rw [<- hL3] at CN
 go_wp2_with fail
 refine CN.out.mono ?_
 rintro e w3 ⟨rfl,s3,q3⟩
 have k3:=k2.trans q3
 have hB3:B≤w3.heap.size:=Nat.le_trans hB2 q3.size
 have b3_0:=b2_0.kp q3
 have a3:=a2.kp q3
 clear CN q3 s2 k2 hB2 b2_0 c2_0_0 c2_0_1 c2_0_2 c2_0_3 a2 ca2
 go_wp2_with fail
 go_end0
 exact ⟨rfl,s3,k3⟩
theorem w131 (p B c:Nat) (L:List Nat) (G:Nat→Prop) (w:World) (vs:List Value) (x:Cmt) (hw:WrSB p B w L) (_hG:∀ b,G b→b < B) (hB:B≤w.heap.size) (hc:At p ⟨c,0,none⟩ (.pointer (some ⟨p,0,none⟩)) w) (hR:cmtP w G vs x) (hsz:(L++cmtE x).length≤1099511627776) :
  Calls Tryz.prog 131 #[.agg vs.toArray,.pointer (some ⟨c,0,none⟩)] w (WrE p B w (L++cmtE x)):=by
 obtain ⟨rfl,i0,i1,i2,i3,i4,_⟩:=hR
 obtain ⟨x0,x1,x2,x3,x4,x5⟩:=x
 simp only at i0 i1 i2 i3 i4
 have hE:L++cmtE (x0,x1,x2,x3,x4,x5) = L++[x0,x1].flatMap encN++[x2].flatMap strE++[x3].flatMap encN++[x4].flatMap strE++flagE x5:=by simp only [cmtE,seqE,List.append_assoc,List.flatMap_cons,List.flatMap_nil,List.append_nil]
 rw [hE] at hsz ⊢
 clear hE
 have hz3:(L++[x0,x1].flatMap encN++[x2].flatMap strE++[x3].flatMap encN++[x4].flatMap strE).length≤1099511627776:=by
  have h9:=hsz
  rw [List.length_append] at h9
  omega
 have hz2:(L++[x0,x1].flatMap encN++[x2].flatMap strE++[x3].flatMap encN).length≤1099511627776:=by
  have h9:=hz3
  rw [List.length_append] at h9
  omega
 have hz1:(L++[x0,x1].flatMap encN++[x2].flatMap strE).length≤1099511627776:=by
  have h9:=hz2
  rw [List.length_append] at h9
  omega
 have hz0:(L++[x0,x1].flatMap encN).length≤1099511627776:=by
  have h9:=hz1
  rw [List.length_append] at h9
  omega
 obtain ⟨L1,hL1⟩:=gX (L++[x0,x1].flatMap encN)
 rw [<- hL1] at hz0 hz1 hz2 hz3 hsz ⊢
 obtain ⟨L2,hL2⟩:=gX (L1++[x2].flatMap strE)
 rw [<- hL2] at hz1 hz2 hz3 hsz ⊢
 obtain ⟨L3,hL3⟩:=gX (L2++[x3].flatMap encN)
 rw [<- hL3] at hz2 hz3 hsz ⊢
 obtain ⟨L4,hL4⟩:=gX (L3++[x4].flatMap strE)
 rw [<- hL4] at hz3 hsz ⊢
 obtain ⟨L5,hL5⟩:=gX (L4++flagE x5)
 rw [<- hL5] at hsz ⊢
 have hp:=hw.lt
 have s0:WrSB p B (w.alloc (.cells #[.int .i64 x0,.int .i64 x1,.string x2,.int .i64 x3,.string x4,.bool x5] 114)) L:=(hw.alloc _)
 have k0:Kp p w (w.alloc (.cells #[.int .i64 x0,.int .i64 x1,.string x2,.int .i64 x3,.string x4,.bool x5] 114)):=((Kp.refl p w).alloc (by first | exact hp | (simp; omega)) _)
 have b0_0:Blk p w.heap.size [.int .i64 x0,.int .i64 x1,.string x2,.int .i64 x3,.string x4,.bool x5] (w.alloc (.cells #[.int .i64 x0,.int .i64 x1,.string x2,.int .i64 x3,.string x4,.bool x5] 114)):=(Blk.new (w:=w) hw [.int .i64 x0,.int .i64 x1,.string x2,.int .i64 x3,.string x4,.bool x5] 114)
 have a0:At p ⟨c,0,none⟩ (.pointer (some ⟨p,0,none⟩)) (w.alloc (.cells #[.int .i64 x0,.int .i64 x1,.string x2,.int .i64 x3,.string x4,.bool x5] 114)):=(hc.alloc (by first | exact hp | (simp; omega)) _)
 have hB0:B≤((w.alloc (.cells #[.int .i64 x0,.int .i64 x1,.string x2,.int .i64 x3,.string x4,.bool x5] 114))).heap.size:=by simp; omega
 have HBel:=qH (fun (w2:World) (h:Kp p w w2) => h.below hw)
 clear hw
 go_enter Tryz.func131,Tryz.ntmps131
 go_upto_region 1 with fail
 obtain ⟨w0,hw0⟩:=gX ((w.alloc (.cells #[.int .i64 x0,.int .i64 x1,.string x2,.int .i64 x3,.string x4,.bool x5] 114)))
 rw [<- hw0] at s0 k0 hB0 b0_0 a0 ⊢
 clear hw0
 have c0_0_0:=b0_0.2 0 _ rfl
 have c0_0_1:=b0_0.2 1 _ rfl
 have c0_0_2:=b0_0.2 2 _ rfl
 have c0_0_3:=b0_0.2 3 _ rfl
 have c0_0_4:=b0_0.2 4 _ rfl
 have c0_0_5:=b0_0.2 5 _ rfl
 have ca0:=a0.2
 have CN:=qH (aH p B [x0,x1] L w0 s0 (by simp) (by intro n hn; simp only [List.mem_cons,List.not_mem_nil,or_false] at hn; rcases hn with rfl | rfl <;> assumption) hB0 (by rw [<- hL1]; exact hz0))
 rw [<- hL1] at CN
 go_wp2_with fail
 refine CN.out.mono ?_
 rintro e w1 ⟨rfl,s1,q1⟩
 have k1:=k0.trans q1
 have hB1:B≤w1.heap.size:=Nat.le_trans hB0 q1.size
 have b1_0:=b0_0.kp q1
 have a1:=a0.kp q1
 clear CN q1 s0 k0 hB0 b0_0 c0_0_0 c0_0_1 c0_0_2 c0_0_3 c0_0_4 c0_0_5 a0 ca0
 have c1_0_0:=b1_0.2 0 _ rfl
 have c1_0_1:=b1_0.2 1 _ rfl
 have c1_0_2:=b1_0.2 2 _ rfl
 have c1_0_3:=b1_0.2 3 _ rfl
 have c1_0_4:=b1_0.2 4 _ rfl
 have c1_0_5:=b1_0.2 5 _ rfl
 have ca1:=a1.2
 have CN:=qH (text_lit p B [x2] L1 w1 s1.buf (by simp) (by intro n hn; simp only [List.mem_cons,List.not_mem_nil,or_false] at hn; rcases hn with rfl <;> assumption) hB1 (by rw [<- hL2]; exact hz1))
 rw [<- hL2] at CN
 go_wp2_with fail
 refine CN.out.mono ?_
 rintro e w2 ⟨rfl,s2,q2⟩
 have k2:=k1.trans q2
 have hB2:B≤w2.heap.size:=Nat.le_trans hB1 q2.size
 have b2_0:=b1_0.kp q2
 have a2:=a1.kp q2
 clear CN q2 s1 k1 hB1 b1_0 c1_0_0 c1_0_1 c1_0_2 c1_0_3 c1_0_4 c1_0_5 a1 ca1
 have c2_0_0:=b2_0.2 0 _ rfl
 have c2_0_1:=b2_0.2 1 _ rfl
 have c2_0_2:=b2_0.2 2 _ rfl
 have c2_0_3:=b2_0.2 3 _ rfl
 have c2_0_4:=b2_0.2 4 _ rfl
 have c2_0_5:=b2_0.2 5 _ rfl
 have ca2:=a2.2
 have CN:=qH (aH p B [x3] L2 w2 s2.buf (by simp) (by intro n hn; simp only [List.mem_cons,List.not_mem_nil,or_false] at hn; rcases hn with rfl <;> assumption) hB2 (by rw [<- hL3]; exact hz2))
 rw [<- hL3] at CN
 go_wp2_with fail
 refine CN.out.mono ?_
 rintro e w3 ⟨rfl,s3,q3⟩
 have k3:=k2.trans q3
 have hB3:B≤w3.heap.size:=Nat.le_trans hB2 q3.size
 have b3_0:=b2_0.kp q3
 have a3:=a2.kp q3
 clear CN q3 s2 k2 hB2 b2_0 c2_0_0 c2_0_1 c2_0_2 c2_0_3 c2_0_4 c2_0_5 a2 ca2
 have c3_0_0:=b3_0.2 0 _ rfl
 have c3_0_1:=b3_0.2 1 _ rfl
 have c3_0_2:=b3_0.2 2 _ rfl
 have c3_0_3:=b3_0.2 3 _ rfl
 have c3_0_4:=b3_0.2 4 _ rfl
 have c3_0_5:=b3_0.2 5 _ rfl
 have ca3:=a3.2
 have CN:=qH (text_lit p B [x4] L3 w3 s3.buf (by simp) (by intro n hn; simp only [List.mem_cons,List.not_mem_nil,or_false] at hn; rcases hn with rfl <;> assumption) hB3 (by rw [<- hL4]; exact hz3))
 rw [<- hL4] at CN
 go_wp2_with fail
 refine CN.out.mono ?_
 rintro e w4 ⟨rfl,s4,q4⟩
 have k4:=k3.trans q4
 have hB4:B≤w4.heap.size:=Nat.le_trans hB3 q4.size
 have b4_0:=b3_0.kp q4
 have a4:=a3.kp q4
 clear CN q4 s3 k3 hB3 b3_0 c3_0_0 c3_0_1 c3_0_2 c3_0_3 c3_0_4 c3_0_5 a3 ca3
 have c4_0_0:=b4_0.2 0 _ rfl
 have c4_0_1:=b4_0.2 1 _ rfl
 have c4_0_2:=b4_0.2 2 _ rfl
 have c4_0_3:=b4_0.2 3 _ rfl
 have c4_0_4:=b4_0.2 4 _ rfl
 have c4_0_5:=b4_0.2 5 _ rfl
 have ca4:=a4.2
 have CN:=qH (boolean_lib p B x5 L4 w4 s4.buf hB4 (by rw [<- hL5]; exact hsz))
 rw [<- hL5] at CN
 go_wp2_with fail
 refine CN.out.mono ?_
 rintro e w5 ⟨rfl,s5,q5⟩
 have k5:=k4.trans q5
 have hB5:B≤w5.heap.size:=Nat.le_trans hB4 q5.size
 have b5_0:=b4_0.kp q5
 have a5:=a4.kp q5
 clear CN q5 s4 k4 hB4 b4_0 c4_0_0 c4_0_1 c4_0_2 c4_0_3 c4_0_4 c4_0_5 a4 ca4
 go_wp2_with fail
 go_end0
 exact ⟨rfl,s5,k5⟩
theorem w133 (p B c:Nat) (L:List Nat) (G:Nat→Prop) (w:World) (vs:List Value) (x:Vr) (hw:WrSB p B w L) (_hG:∀ b,G b→b < B) (hB:B≤w.heap.size) (hc:At p ⟨c,0,none⟩ (.pointer (some ⟨p,0,none⟩)) w) (hR:vrP w G vs x) (hsz:(L++vrE x).length≤1099511627776) :
  Calls Tryz.prog 133 #[.agg vs.toArray,.pointer (some ⟨c,0,none⟩)] w (WrE p B w (L++vrE x)):=by
 obtain ⟨rfl,i0,i1⟩:=hR
 obtain ⟨x0,x1⟩:=x
 simp only at i0 i1
 have hE:L++vrE (x0,x1) = L++[x0,x1].flatMap strE:=by simp only [vrE,seqE,List.flatMap_cons,List.flatMap_nil,List.append_nil]
 rw [hE] at hsz ⊢
 clear hE
 obtain ⟨L1,hL1⟩:=gX (L++[x0,x1].flatMap strE)
 rw [<- hL1] at hsz ⊢
 have hp:=hw.lt
 have s0:WrSB p B (w.alloc (.cells #[.string x0,.string x1] 116)) L:=(hw.alloc _)
 have k0:Kp p w (w.alloc (.cells #[.string x0,.string x1] 116)):=((Kp.refl p w).alloc (by first | exact hp | (simp; omega)) _)
 have b0_0:Blk p w.heap.size [.string x0,.string x1] (w.alloc (.cells #[.string x0,.string x1] 116)):=(Blk.new (w:=w) hw [.string x0,.string x1] 116)
 have a0:At p ⟨c,0,none⟩ (.pointer (some ⟨p,0,none⟩)) (w.alloc (.cells #[.string x0,.string x1] 116)):=(hc.alloc (by first | exact hp | (simp; omega)) _)
 have hB0:B≤((w.alloc (.cells #[.string x0,.string x1] 116))).heap.size:=by simp; omega
 have HBel:=qH (fun (w2:World) (h:Kp p w w2) => h.below hw)
 clear hw
 go_enter Tryz.func133,Tryz.ntmps133
 go_upto_region 1 with fail
 obtain ⟨w0,hw0⟩:=gX ((w.alloc (.cells #[.string x0,.string x1] 116)))
 rw [<- hw0] at s0 k0 hB0 b0_0 a0 ⊢
 clear hw0
 have c0_0_0:=b0_0.2 0 _ rfl
 have c0_0_1:=b0_0.2 1 _ rfl
 have ca0:=a0.2
 have CN:=qH (text_lit p B [x0,x1] L w0 s0 (by simp) (by intro n hn; simp only [List.mem_cons,List.not_mem_nil,or_false] at hn; rcases hn with rfl | rfl <;> assumption) hB0 (by rw [<- hL1]; exact hsz))
 rw [<- hL1] at CN
 go_wp2_with fail
 refine CN.out.mono ?_
 rintro e w1 ⟨rfl,s1,q1⟩
 have k1:=k0.trans q1
 have hB1:B≤w1.heap.size:=Nat.le_trans hB0 q1.size
 have b1_0:=b0_0.kp q1
 have a1:=a0.kp q1
 clear CN q1 s0 k0 hB0 b0_0 c0_0_0 c0_0_1 a0 ca0
 go_wp2_with fail
 go_end0
 exact ⟨rfl,s1,k1⟩
theorem w_props (p B:Nat) (L:List Nat) (G:Nat→Prop) (w:World) (v:Value) (l:List Two) (hw:WrSB p B w L) (hG:∀ b,G b→b < B) (hB:B≤w.heap.size) (hv:Slv twoP 2 w G v l) (hsz:(L++ak twoE l).length≤1099511627776) :
  Calls Tryz.prog 117 #[.pointer (some ⟨p,0,none⟩),v] w (WrE p B w (L++ak twoE l)):=by
 obtain ⟨A,cp,hsl,_,_⟩:=hv.shape
 subst hsl
 have hE:L++ak twoE l = L++ak twoE l:=rfl
 rw [hE] at hsz ⊢
 clear hE
 obtain ⟨L1,hL1⟩:=gX (L++ak twoE l)
 rw [<- hL1] at hsz ⊢
 have hp:=hw.lt
 have s0:WrSB p B (w.alloc (.cells #[.pointer (some ⟨p,0,none⟩)] 131)) L:=(hw.alloc _)
 have k0:Kp p w (w.alloc (.cells #[.pointer (some ⟨p,0,none⟩)] 131)):=((Kp.refl p w).alloc (by first | exact hp | (simp; omega)) _)
 have b0_0:Blk p w.heap.size [.pointer (some ⟨p,0,none⟩)] (w.alloc (.cells #[.pointer (some ⟨p,0,none⟩)] 131)):=(Blk.new (w:=w) hw [.pointer (some ⟨p,0,none⟩)] 131)
 have hB0:B≤((w.alloc (.cells #[.pointer (some ⟨p,0,none⟩)] 131))).heap.size:=by simp; omega
 have HBel:=qH (fun (w2:World) (h:Kp p w w2) => h.below hw)
 clear hw
 go_enter Tryz.func117,Tryz.ntmps117
 go_upto_region 1 with fail
 obtain ⟨w0,hw0⟩:=gX ((w.alloc (.cells #[.pointer (some ⟨p,0,none⟩)] 131)))
 rw [<- hw0] at s0 k0 hB0 b0_0 ⊢
 clear hw0
 have c0_0_0:=b0_0.2 0 _ rfl
 have CN:=qH (put193 twoP twoE p B w.heap.size _ _ _ l L G w0 s0 (hv.below am hG (HBel.out w0 k0)) am one_two hG (b0_0.at 0 _ rfl) hB0 (by rw [<- hL1]; exact hsz) (fun wr vs x L2 hm hR hs ha hb hz => w194 p B _ L2 G wr vs x hs.buf hG hb ha hR hz))
 rw [<- hL1] at CN
 go_wp2_with fail
 refine CN.out.mono ?_
 rintro e w1 ⟨rfl,s1,q1⟩
 have k1:=k0.trans q1
 have hB1:B≤w1.heap.size:=Nat.le_trans hB0 q1.size
 have b1_0:=b0_0.kp q1
 clear CN q1 s0 k0 hB0 b0_0 c0_0_0
 go_wp2_with fail
 go_end0
 exact ⟨rfl,s1,k1⟩
theorem w_revs (p B:Nat) (L:List Nat) (G:Nat→Prop) (w:World) (v:Value) (l:List Rev) (hw:WrSB p B w L) (hG:∀ b,G b→b < B) (hB:B≤w.heap.size) (hv:Slv revP 3 w G v l) (hsz:(L++ak revE l).length≤1099511627776) :
  Calls Tryz.prog 55 #[.pointer (some ⟨p,0,none⟩),v] w (WrE p B w (L++ak revE l)):=by
 obtain ⟨A,cp,hsl,_,_⟩:=hv.shape
 subst hsl
 have hE:L++ak revE l = L++ak revE l:=rfl
 rw [hE] at hsz ⊢
 clear hE
 obtain ⟨L1,hL1⟩:=gX (L++ak revE l)
 rw [<- hL1] at hsz ⊢
 have hp:=hw.lt
 have s0:WrSB p B (w.alloc (.cells #[.pointer (some ⟨p,0,none⟩)] 131)) L:=(hw.alloc _)
 have k0:Kp p w (w.alloc (.cells #[.pointer (some ⟨p,0,none⟩)] 131)):=((Kp.refl p w).alloc (by first | exact hp | (simp; omega)) _)
 have b0_0:Blk p w.heap.size [.pointer (some ⟨p,0,none⟩)] (w.alloc (.cells #[.pointer (some ⟨p,0,none⟩)] 131)):=(Blk.new (w:=w) hw [.pointer (some ⟨p,0,none⟩)] 131)
 have hB0:B≤((w.alloc (.cells #[.pointer (some ⟨p,0,none⟩)] 131))).heap.size:=by simp; omega
 have HBel:=qH (fun (w2:World) (h:Kp p w w2) => h.below hw)
 clear hw
 go_enter Tryz.func55,Tryz.ntmps55
 go_upto_region 1 with fail
 obtain ⟨w0,hw0⟩:=gX ((w.alloc (.cells #[.pointer (some ⟨p,0,none⟩)] 131)))
 rw [<- hw0] at s0 k0 hB0 b0_0 ⊢
 clear hw0
 have c0_0_0:=b0_0.2 0 _ rfl
 have CN:=qH (put122 revP revE p B w.heap.size _ _ _ l L G w0 s0 (hv.below bg hG (HBel.out w0 k0)) bg one_rev hG (b0_0.at 0 _ rfl) hB0 (by rw [<- hL1]; exact hsz) (fun wr vs x L2 hm hR hs ha hb hz => w123 p B _ L2 G wr vs x hs.buf hG hb ha hR hz))
 rw [<- hL1] at CN
 go_wp2_with fail
 refine CN.out.mono ?_
 rintro e w1 ⟨rfl,s1,q1⟩
 have k1:=k0.trans q1
 have hB1:B≤w1.heap.size:=Nat.le_trans hB0 q1.size
 have b1_0:=b0_0.kp q1
 clear CN q1 s0 k0 hB0 b0_0 c0_0_0
 go_wp2_with fail
 go_end0
 exact ⟨rfl,s1,k1⟩
end Go.Proofs.YtmhhcfceikcfbaaGreat
