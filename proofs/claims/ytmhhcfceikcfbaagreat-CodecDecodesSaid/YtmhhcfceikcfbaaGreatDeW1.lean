/- Walks: the writer's numbers. -/
import Derived.KernelRfl
import Derived.Laws.Shifts
import Derived.Lib.Zigzag
import Derived.Lib.VarintBits
import Derived.Test.YtmhhcfceikcfbaaGreatChecked
import Derived.BigQuiet
import Derived.Laws.IdiomStrings
import Derived.Test.YtmhhcfceikcfbaaGreatDeMem
namespace Go.Proofs.YtmhhcfceikcfbaaGreat
open Go.RowKit
set_option maxRecDepth 100000
set_option maxHeartbeats 4000000
theorem info_parts {o:Option TypeInfo} {z:Option Value} {a b:Nat} (h:o.map (fun i => (i.zero,i.size,i.bytes)) = some (z,a,b)):∃ i,o = some i∧i.zero = z∧i.size = a∧i.bytes = b:=by
 cases o with
 | none => cases h
 | some i =>
  simp only [Option.map_some,Option.some.injEq,Prod.mk.injEq] at h
  exact ⟨i,rfl,h.1,h.2.1,h.2.2⟩
theorem info5:(Tryz.prog.info? 5).map (fun i => (i.zero,i.size,i.bytes)) = some (some (.int .u8 0),1,1):=by kernel_rfl
def intV (n:Int):Value:=.int .i64 n
def Row (p g:Nat) (ns:List Int) (w:World):Prop:=Off p g w∧∀ (k:Nat) (n:Int),ns[k]? = some n→w.cell? ⟨g,k,none⟩ = some (.int .i64 n)
theorem Row.kp {p g:Nat} {ns:List Int} {w w':World} (h:Row p g ns w) (k:Kp p w w'):Row p g ns w' :=
 ⟨(h.1.kp k).1,fun i n hn => (World.cell?_of_block (h.1.kp k).2).trans (h.2 i n hn)⟩
def WrE (p B:Nat) (w:World) (L:List Nat) (e:Ending) (w':World):Prop:=e = .returned (.tuple #[])∧WrS p B w' L∧Kp p w w'
theorem vb_big {u:Nat} (h:¬ u < 128):vb u = (u % 128 + 128)::vb (u / 128):=by rw [vb,if_neg h]
theorem vb_small {u:Nat} (h:u < 128):vb u = [u]:=by rw [vb,if_pos h]
theorem vb_len (n:Nat):∀ u,u < 128 ^ (n + 1)→(vb u).length≤n + 1:=by
 induction n with
 | zero => intro u h; rw [vb_small (by omega)]; simp
 | succ n ih =>
  intro u h
  by_cases hu:u < 128
  ·rw [vb_small hu]; simp
  rw [vb_big hu,List.length_cons]
  have:=ih (u / 128) (by rw [Nat.pow_succ] at h; omega)
  omega
theorem encN_len {n:Int} (h:I64 n):(encN n).length≤10:=vb_len 9 _ (Nat.lt_of_lt_of_le (zz_lt h) (by decide))
theorem u8_or (x:Nat) (h:x < 256):bits .or .u8 (x:Int) 128 = ((x % 128 + 128:Nat):Int):=by
 have:∀ x:Fin 256,bits .or .u8 ((x:Nat):Int) 128 = (((x:Nat) % 128 + 128:Nat):Int):=by decide +kernel
 exact this ⟨x,h⟩
theorem zz_bits {n:Int} (h:I64 n):bits .xor .u64 (IntKind.u64.wrap (IntKind.u64.wrap n * 2)) (IntKind.u64.wrap (n / 9223372036854775808)) = ((zz n:Nat):Int):=by
 unfold I64 at h
 rw [IntKind.wrap_u64,IntKind.wrap_u64,IntKind.wrap_u64]
 by_cases h0:n < 0
 ·have e1:n % 18446744073709551616 * 2 % 18446744073709551616 = ((2 * n + 18446744073709551616).toNat:Int):=by omega
  have e2:n / 9223372036854775808 % 18446744073709551616 = ((2 ^ 64 - 1:Nat):Int):=by
   have:n / 9223372036854775808 = -1:=by omega
   rw [this]; decide
  rw [e1,e2,bits_xor_u64_nat _ _ (by omega) (by decide),Nat.xor_comm,Lib.xor_ones64 _ (by omega)]
  unfold zz
  rw [if_pos h0]
  omega
 have e1:n % 18446744073709551616 * 2 % 18446744073709551616 = ((2 * n).toNat:Int):=by omega
 have e2:n / 9223372036854775808 % 18446744073709551616 = ((0:Nat):Int):=by omega
 rw [e1,e2,bits_xor_u64_nat _ _ (by omega) (by decide),Nat.xor_zero]
 unfold zz
 rw [if_neg h0]
def NumO (p B:Nat) (L:List Nat) (ns:List Int) (w wr:World) (k:Nat):Prop:=WrSB p B wr (L++(ns.take k).flatMap encN)∧(0 < k→WrS p B wr (L++(ns.take k).flatMap encN))∧Kp p w wr
def NumI (p B:Nat) (M:List Nat) (w wr:World) (u:Nat) (v:Value) (L:List Nat):Prop:=WrB p B wr v L∧L++vb u = M∧Kp p w wr
theorem number_lib (p B g:Nat) (ns:List Int) (L:List Nat) (w:World) (hw:WrSB p B w L) (hr:Row p g ns w) (hn:0 < ns.length) (hI:∀ n∈ns,I64 n) (hB:B≤w.heap.size) (hsz:(L++ns.flatMap encN).length≤1099511627776) :
  Calls Tryz.prog 42 #[.pointer (some ⟨p,0,none⟩),.slice (some ⟨g,0,none⟩) ns.length ns.length] w (WrE p B w (L++ns.flatMap encN)):=by
 obtain ⟨i0,hi,hz0,hz1,hz2⟩:=info_parts info5
 have HW0:Hid (NumO p B L ns w w 0):=qH ⟨by simpa using hw,fun h => absurd h (by omega),Kp.refl _ _⟩
 have HR:=qH hr
 have HI:=qH hI
 have hmb:ns.length≤1099511627776:=by
  have h1:=flat_ge encN_ne ns
  rw [List.length_append] at hsz
  omega
 obtain ⟨m,hm⟩:=gX (ns.length)
 have HM:=qH hm
 have HS:=qH hsz
 rw [<- hm] at hn hmb ⊢
 clear hw hr hI hm hsz
 go_enter Tryz.func42,Tryz.ntmps42
 go_wp2_with fail
 go_loopw [9] (fun iv wr => ∃ k:Nat,k≤m∧iv = .int .i64 (k:Int)∧Hid (NumO p B L ns w wr k)) (fun iv _ => m - (intOf iv).toNat)
 case atStart => exact ⟨0,Nat.zero_le _,rfl,HW0⟩
 obtain ⟨k,hk,rfl,HK⟩:=hrel
 clear HW0
 by_cases hlt:k < m
 ·have hlt':(k:Int) < (m:Int):=by omega
  obtain ⟨n,hnk⟩:∃ n,ns[k]? = some n:=⟨ns[k]'(by rw [<- HM.out]; exact hlt),by simp⟩
  have c1:=(HR.out.kp HK.out.2.2).2 k n hnk
  have e1:=zz_bits (HI.out n (List.mem_of_getElem? hnk))
  have hz:=zz_lt (HI.out n (List.mem_of_getElem? hnk))
  have HT:Hid (L++(ns.take (k + 1)).flatMap encN = L++(ns.take k).flatMap encN++vb (zz n)):=qH (by
   rw [List.take_add_one,hnk,List.flatMap_append,List.append_assoc]
   simp [encN])
  have HL:(L++(ns.take (k + 1)).flatMap encN).length≤1099511627776:=by
   have h2:=HS.out
   rw [<- List.take_append_drop (k + 1) ns,List.flatMap_append,List.length_append,List.length_append] at h2
   rw [List.length_append]
   omega
  obtain ⟨M,hM⟩:=gX (L++(ns.take (k + 1)).flatMap encN)
  obtain ⟨u0,hu0⟩:=gX (zz n)
  rw [<- hM] at HT HL
  rw [<- hu0] at e1 hz HT
  have HM2:=qH hM
  clear hu0 hM
  obtain ⟨v0,hv0⟩:=HK.out.1
  have HN0:Hid (NumI p B M w wr u0 v0 (L++(ns.take k).flatMap encN)):=qH ⟨hv0,HT.out.symm,HK.out.2.2⟩
  clear hv0 HT HK
  go_wp2_with fail
  go_loopw [6] (fun uv wx => ∃ (u:Nat) (v:Value) (L':List Nat),uv = .int .u64 (u:Int)∧u < 18446744073709551616∧Hid (NumI p B M w wx u v L')) (fun uv _ => (intOf uv).toNat)
  case atStart => exact ⟨u0,v0,_,rfl,hz,HN0⟩
  obtain ⟨u,v,L',rfl,hu,HN⟩:=hrel
  clear HN0 hz e1
  have hl':L'.length < 140737488355328:=by
   have:=congrArg List.length HN.out.2.1
   rw [List.length_append] at this
   omega
  have hc:=aa HN.out.1.1 0
  have hsz1:=HN.out.2.2.size
  simp only [List.getElem?_toArray,List.getElem?_cons_zero] at hc
  by_cases h128:u < 128
  ·have d1:decide ((128:Int)≤(u:Int)) = false:=by simp; omega
   have d2:¬ (128:Int)≤(u:Int):=by omega
   have e2:IntKind.u8.wrap (u:Int) = (u:Int):=by rw [IntKind.wrap_u8]; omega
   have HB:=qH (HN.out.1.alloc (.cells #[.int .u8 (u:Int)] 5))
   have HKP:=qH (HN.out.2.2.alloc HN.out.1.lt (.cells #[.int .u8 (u:Int)] 5))
   have HE:Hid (L'++[u] = L++(ns.take (k + 1)).flatMap encN):=qH (by rw [<- vb_small h128,HN.out.2.1,HM2.out])
   go_wp2_with (at_builtin; refine wpList_buf _ rfl _ _ 93 rfl B i0 _ Tryz.underlying93 hi hz0 hz1 hz2 rfl v L' rfl HB.out.2.2.2 wr.heap.size 1 u rfl (by simp) hl' (by simp; omega) ?_; intro v2 w2 hown hg hat; obtain ⟨k1,k2,HW2,HK2⟩:=WrB.put HKP.out HB.out hown hg hat; obtain ⟨A2,cc2,rfl,_,_⟩:=Own.shape hown; clear hg hat hown HB HKP; rw [List.length_append,List.length_singleton] at HW2 HK2)
   rw [HE.out] at HW2
   have hS:WrS p B _ _:=⟨_,HW2⟩
   exact ⟨⟨k + 1,by omega,by go_num,qH ⟨hS.buf,fun _ => hS,HK2⟩⟩,by simp [intOf]; omega⟩
  have d1:decide ((128:Int)≤(u:Int)) = true:=by simp; omega
  have d2:(128:Int)≤(u:Int):=by omega
  obtain ⟨q,hq⟩:=gX (u % 256)
  obtain ⟨y,hy⟩:=gX (u % 128 + 128)
  obtain ⟨u2,hu2⟩:=gX (u / 128)
  have e2:IntKind.u8.wrap (u:Int) = (q:Int):=by rw [IntKind.wrap_u8]; omega
  have e3:bits .or .u8 (q:Int) 128 = (y:Int):=by rw [u8_or q (by omega)]; omega
  have e4:(u:Int) / 128 = (u2:Int):=by omega
  have hu3:u2 < u:=by omega
  have HB:=qH (HN.out.1.alloc (.cells #[.int .u8 (y:Int)] 5))
  have HKP:=qH (HN.out.2.2.alloc HN.out.1.lt (.cells #[.int .u8 (y:Int)] 5))
  have HE:Hid (L'++[y]++vb u2 = M):=qH (by rw [<- HN.out.2.1,vb_big h128,hy,hu2]; simp)
  clear hq hy hu2
  go_wp2_with (at_builtin; refine wpList_buf _ rfl _ _ 93 rfl B i0 _ Tryz.underlying93 hi hz0 hz1 hz2 rfl v L' rfl HB.out.2.2.2 wr.heap.size 1 y rfl (by simp) hl' (by simp; omega) ?_; intro v2 w2 hown hg hat; obtain ⟨k1,k2,HW2,HK2⟩:=WrB.put HKP.out HB.out hown hg hat; obtain ⟨A2,cc2,rfl,_,_⟩:=Own.shape hown; clear hg hat hown HB HKP; rw [List.length_append,List.length_singleton] at HW2 HK2)
  exact ⟨⟨u2,_,L'++[y],rfl,by omega,qH ⟨HW2.buf,HE.out,HK2⟩⟩,by simp [intOf]; omega⟩
 have hkm:k = m:=by omega
 subst hkm
 have hlt':¬ (k:Int) < (k:Int):=by omega
 go_wp2_with fail
 go_end0
 have e:ns.take k = ns:=List.take_of_length_le (by rw [<- HM.out]; exact Nat.le_refl _)
 obtain ⟨_,h1,h2⟩:=HK.out
 rw [e] at h1
 exact ⟨rfl,h1 hn,h2⟩
theorem cells_lit (w:World) (ns:List Int) (k:Nat) (n:Int) (h:ns[k]? = some n):(w.alloc (.cells (ns.map intV).toArray 3)).cell? ⟨w.heap.size,k,none⟩ = some (.int .i64 n):=by
 rw [World.cell?_alloc_new]
 simp [h,intV]
theorem WrSB.lt {p B:Nat} {w:World} {L:List Nat} (h:WrSB p B w L):p < w.heap.size:=by
 obtain ⟨v,h⟩:=h
 exact h.lt
theorem WrSB.off_new {p B:Nat} {w:World} {L:List Nat} (h:WrSB p B w L) (o:Obj):Off p w.heap.size (w.alloc o):=by
 obtain ⟨v,h⟩:=h
 exact h.off_new o
theorem WrE.from_alloc {p B:Nat} {w:World} {L L':List Nat} {o:Obj} {e:Ending} {w':World} (hw:WrSB p B w L) (h:WrE p B (w.alloc o) L' e w'):WrE p B w L' e w' :=
 ⟨h.1,h.2.1,((Kp.refl p w).alloc hw.lt o).trans h.2.2⟩
theorem aH (p B:Nat) (ns:List Int) (L:List Nat) (w:World) (hw:WrSB p B w L) (hn:0 < ns.length) (hI:∀ n∈ns,I64 n) (hB:B≤w.heap.size) (hsz:(L++ns.flatMap encN).length≤1099511627776) :
  Calls Tryz.prog 42 #[.pointer (some ⟨p,0,none⟩),.slice (some ⟨w.heap.size,0,none⟩) ns.length ns.length] (w.alloc (.cells (ns.map intV).toArray 3)) (WrE p B w (L++ns.flatMap encN)) :=
 (number_lib p B w.heap.size ns L _ (hw.alloc _) ⟨hw.off_new _,fun k n h => cells_lit w ns k n h⟩ hn hI (by simp; omega) hsz).mono fun _ _ h => h.from_alloc hw
end Go.Proofs.YtmhhcfceikcfbaaGreat
namespace Go.Proofs.YtmhhcfceikcfbaaGreat
open Go.RowKit
set_option maxRecDepth 100000
set_option maxHeartbeats 4000000
def strV (s:ByteArray):Value:=.string s
def RowS (p g:Nat) (ns:List ByteArray) (w:World):Prop:=Off p g w∧∀ (k:Nat) (n:ByteArray),ns[k]? = some n→w.cell? ⟨g,k,none⟩ = some (.string n)
theorem RowS.kp {p g:Nat} {ns:List ByteArray} {w w':World} (h:RowS p g ns w) (k:Kp p w w'):RowS p g ns w' :=
 ⟨(h.1.kp k).1,fun i n hn => (World.cell?_of_block (h.1.kp k).2).trans (h.2 i n hn)⟩
def TxtO (p B:Nat) (L:List Nat) (ns:List ByteArray) (w wr:World) (k:Nat):Prop:=WrSB p B wr (L++(ns.take k).flatMap strE)∧(0 < k→WrS p B wr (L++(ns.take k).flatMap strE))∧Kp p w wr
theorem text_lib (p B g:Nat) (ns:List ByteArray) (L:List Nat) (w:World) (hw:WrSB p B w L) (hr:RowS p g ns w) (hn:0 < ns.length) (hI:∀ n∈ns,szD n) (hB:B≤w.heap.size) (hsz:(L++ns.flatMap strE).length≤1099511627776) :
  Calls Tryz.prog 116 #[.pointer (some ⟨p,0,none⟩),.slice (some ⟨g,0,none⟩) ns.length ns.length] w (WrE p B w (L++ns.flatMap strE)):=by
 obtain ⟨i0,hi,hz0,hz1,hz2⟩:=info_parts info5
 have HW0:Hid (TxtO p B L ns w w 0):=qH ⟨by simpa using hw,fun h => absurd h (by omega),Kp.refl _ _⟩
 have HR:=qH hr
 have HI:=qH hI
 have hmb:ns.length≤1099511627776:=by
  have h1:=flat_ge strE_ne ns
  rw [List.length_append] at hsz
  omega
 obtain ⟨m,hm⟩:=gX (ns.length)
 have HM:=qH hm
 have HS:=qH hsz
 rw [<- hm] at hn hmb ⊢
 clear hw hr hI hm hsz
 go_enter Tryz.func116,Tryz.ntmps116
 go_wp2_with fail
 go_loopw [8] (fun iv wr => ∃ k:Nat,k≤m∧iv = .int .i64 (k:Int)∧Hid (TxtO p B L ns w wr k)) (fun iv _ => m - (intOf iv).toNat)
 case atStart => exact ⟨0,Nat.zero_le _,rfl,HW0⟩
 obtain ⟨k,hk,rfl,HK⟩:=hrel
 clear HW0
 by_cases hlt:k < m
 ·have hlt':(k:Int) < (m:Int):=by omega
  obtain ⟨s,hnk⟩:∃ n,ns[k]? = some n:=⟨ns[k]'(by rw [<- HM.out]; exact hlt),by simp⟩
  have c1:=(HR.out.kp HK.out.2.2).2 k s hnk
  have hs:=HI.out s (List.mem_of_getElem? hnk)
  have HT:Hid (L++(ns.take (k + 1)).flatMap strE = L++(ns.take k).flatMap strE++encN s.size++al s):=qH (by
   rw [List.take_add_one,hnk,List.flatMap_append,List.append_assoc,List.append_assoc]
   simp [strE,textE,aE])
  have HL:(L++(ns.take (k + 1)).flatMap strE).length≤1099511627776:=by
   have h2:=HS.out
   rw [<- List.take_append_drop (k + 1) ns,List.flatMap_append,List.length_append,List.length_append] at h2
   rw [List.length_append]
   omega
  obtain ⟨M,hM⟩:=gX (L++(ns.take (k + 1)).flatMap strE)
  rw [<- hM] at HT HL
  have HM2:=qH hM
  clear hM
  have hB2:B≤wr.heap.size:=Nat.le_trans hB HK.out.2.2.size
  have CN:=qH (aH p B [(s.size:Int)] (L++(ns.take k).flatMap strE) wr HK.out.1 (by simp) (by intro n h; rw [List.mem_singleton.1 h]; unfold szD at hs; unfold I64; omega) hB2 (by rw [HT.out] at HL; simp at HL ⊢; omega))
  go_wp2_with fail
  refine CN.out.mono ?_
  rintro e w1 ⟨rfl,⟨v,hv⟩,hk1⟩
  have HV:=qH hv
  have HK1:=qH hk1
  have hc:=aa hv.1 0
  simp only [List.getElem?_toArray,List.getElem?_cons_zero] at hc
  have hl':(L++(ns.take k).flatMap strE++encN s.size).length + s.size≤1099511627776:=by
   have:=congrArg List.length HT.out
   rw [List.length_append,aE] at this
   omega
  obtain ⟨N,hN⟩:=gX (L++(ns.take k).flatMap strE++encN s.size)
  have HE:Hid (N++al s = L++(ns.take (k + 1)).flatMap strE):=qH (by rw [hN,<- HT.out,HM2.out])
  have HV2:Hid (Wr p B w1 v N):=qH (by rw [hN]; simpa using hv)
  have HKP:=qH (HK.out.2.2.trans hk1)
  rw [<- hN] at hl'
  have hb1:B≤w1.heap.size:=Nat.le_trans hB2 hk1.size
  clear hN hv hk1 HV HK1 CN HT HM2 HL
  go_wp2_with (at_builtin; refine wpList_str _ rfl _ _ 93 9 rfl B i0 Tryz.underlying93 Tryz.underlying9 hi hz0 hz1 hz2 v N rfl HV2.out.2.2.2 s rfl hl' hb1 ?_; intro v2 w2 hown hg hat; obtain ⟨k1,k2,HW2,HK2⟩:=WrB.put HKP.out HV2.out.buf hown hg hat; obtain ⟨A2,cc2,rfl,_,_⟩:=Own.shape hown; clear hg hat hown; rw [List.length_append] at HW2 HK2)
  rw [HE.out] at HW2
  have hS:WrS p B _ _:=⟨_,HW2⟩
  exact ⟨⟨k + 1,by omega,by go_num,qH ⟨hS.buf,fun _ => hS,HK2⟩⟩,by simp [intOf]; omega⟩
 have hkm:k = m:=by omega
 subst hkm
 have hlt':¬ (k:Int) < (k:Int):=by omega
 go_wp2_with fail
 go_end0
 have e:ns.take k = ns:=List.take_of_length_le (by rw [<- HM.out]; exact Nat.le_refl _)
 obtain ⟨_,h1,h2⟩:=HK.out
 rw [e] at h1
 exact ⟨rfl,h1 hn,h2⟩
theorem cells_litS (w:World) (ns:List ByteArray) (k:Nat) (n:ByteArray) (h:ns[k]? = some n):(w.alloc (.cells (ns.map strV).toArray 9)).cell? ⟨w.heap.size,k,none⟩ = some (.string n):=by
 rw [World.cell?_alloc_new]
 simp [h,strV]
theorem text_lit (p B:Nat) (ns:List ByteArray) (L:List Nat) (w:World) (hw:WrSB p B w L) (hn:0 < ns.length) (hI:∀ n∈ns,szD n) (hB:B≤w.heap.size) (hsz:(L++ns.flatMap strE).length≤1099511627776) :
  Calls Tryz.prog 116 #[.pointer (some ⟨p,0,none⟩),.slice (some ⟨w.heap.size,0,none⟩) ns.length ns.length] (w.alloc (.cells (ns.map strV).toArray 9)) (WrE p B w (L++ns.flatMap strE)) :=
 (text_lib p B w.heap.size ns L _ (hw.alloc _) ⟨hw.off_new _,fun k n h => cells_litS w ns k n h⟩ hn hI (by simp; omega) hsz).mono fun _ _ h => h.from_alloc hw
theorem boolean_lib (p B:Nat) (b:Bool) (L:List Nat) (w:World) (hw:WrSB p B w L) (hB:B≤w.heap.size) (hsz:(L++flagE b).length≤1099511627776) :
  Calls Tryz.prog 77 #[.pointer (some ⟨p,0,none⟩),.bool b] w (WrE p B w (L++flagE b)):=by
 have CN:=qH (aH p B [if b then 1 else 0] L w hw (by simp) (by intro n h; rw [List.mem_singleton.1 h]; cases b <;> (unfold I64; decide)) hB (by simpa [flagE] using hsz))
 have e:L++[if b then (1:Int) else 0].flatMap encN = L++flagE b:=by simp [flagE]
 rw [e] at CN
 obtain ⟨M,hM⟩:=gX (L++flagE b)
 rw [<- hM] at CN ⊢
 clear hM e hsz
 cases b with
 | true =>
  go_enter Tryz.func77,Tryz.ntmps77
  go_wp2_with fail
  refine CN.out.mono ?_
  rintro e w1 ⟨rfl,h1,h2⟩
  go_wp2_with fail
  go_end0
  exact ⟨rfl,h1,h2⟩
 | false =>
  go_enter Tryz.func77,Tryz.ntmps77
  go_wp2_with fail
  refine CN.out.mono ?_
  rintro e w1 ⟨rfl,h1,h2⟩
  go_wp2_with fail
  go_end0
  exact ⟨rfl,h1,h2⟩
end Go.Proofs.YtmhhcfceikcfbaaGreat
namespace Go.Proofs.YtmhhcfceikcfbaaGreat
open Go.RowKit
set_option maxRecDepth 100000
set_option maxHeartbeats 4000000
theorem len_2 {vs:List Value} (h:vs.length = 2):∃ v0 v1,vs = [v0,v1]:=by
 match vs,h with
 | [v0,v1],_ => exact ⟨v0,v1,rfl⟩
theorem len_3 {vs:List Value} (h:vs.length = 3):∃ v0 v1 v2,vs = [v0,v1,v2]:=by
 match vs,h with
 | [v0,v1,v2],_ => exact ⟨v0,v1,v2,rfl⟩
theorem len_4 {vs:List Value} (h:vs.length = 4):∃ v0 v1 v2 v3,vs = [v0,v1,v2,v3]:=by
 match vs,h with
 | [v0,v1,v2,v3],_ => exact ⟨v0,v1,v2,v3,rfl⟩
theorem len_5 {vs:List Value} (h:vs.length = 5):∃ v0 v1 v2 v3 v4,vs = [v0,v1,v2,v3,v4]:=by
 match vs,h with
 | [v0,v1,v2,v3,v4],_ => exact ⟨v0,v1,v2,v3,v4,rfl⟩
theorem len_6 {vs:List Value} (h:vs.length = 6):∃ v0 v1 v2 v3 v4 v5,vs = [v0,v1,v2,v3,v4,v5]:=by
 match vs,h with
 | [v0,v1,v2,v3,v4,v5],_ => exact ⟨v0,v1,v2,v3,v4,v5,rfl⟩
theorem len_7 {vs:List Value} (h:vs.length = 7):∃ v0 v1 v2 v3 v4 v5 v6,vs = [v0,v1,v2,v3,v4,v5,v6]:=by
 match vs,h with
 | [v0,v1,v2,v3,v4,v5,v6],_ => exact ⟨v0,v1,v2,v3,v4,v5,v6,rfl⟩
theorem len_11 {vs:List Value} (h:vs.length = 11):∃ v0 v1 v2 v3 v4 v5 v6 v7 v8 v9 v10,vs = [v0,v1,v2,v3,v4,v5,v6,v7,v8,v9,v10]:=by
 match vs,h with
 | [v0,v1,v2,v3,v4,v5,v6,v7,v8,v9,v10],_ => exact ⟨v0,v1,v2,v3,v4,v5,v6,v7,v8,v9,v10,rfl⟩
theorem size190:(Tryz.prog.info? 190).map (·.size) = some 2:=by kernel_rfl
theorem size201:(Tryz.prog.info? 201).map (·.size) = some 4:=by kernel_rfl
theorem size141:(Tryz.prog.info? 141).map (·.size) = some 3:=by kernel_rfl
theorem size107:(Tryz.prog.info? 107).map (·.size) = some 6:=by kernel_rfl
theorem size110:(Tryz.prog.info? 110).map (·.size) = some 2:=by kernel_rfl
theorem size112:(Tryz.prog.info? 112).map (·.size) = some 4:=by kernel_rfl
theorem size114:(Tryz.prog.info? 114).map (·.size) = some 6:=by kernel_rfl
theorem size116:(Tryz.prog.info? 116).map (·.size) = some 2:=by kernel_rfl
theorem size156:(Tryz.prog.info? 156).map (·.size) = some 6:=by kernel_rfl
theorem size174:(Tryz.prog.info? 174).map (·.size) = some 7:=by kernel_rfl
theorem size53:(Tryz.prog.info? 53).map (·.size) = some 11:=by kernel_rfl
theorem size187:(Tryz.prog.info? 187).map (·.size) = some 2:=by kernel_rfl
theorem put193 {α:Type} (R:Rp α) (enc:α→List Nat) (p B c:Nat) (A:Option Addr) (n cap:Nat) (l:List α) (L:List Nat) (G:Nat→Prop) (w:World)
  (hw:WrSB p B w L) (hv:Slv R 2 w G (.slice A n cap) l) (hR:Stb R) (hO:One R) (hG:∀ b,G b→b < B) (hc:At p ⟨c,0,none⟩ (.pointer (some ⟨p,0,none⟩)) w) (hB:B≤w.heap.size) (hsz:(L++ak enc l).length≤1099511627776)
  (HC:∀ (wr:World) (vs:List Value) (x:α) (L':List Nat),x∈l→R wr G vs x→WrS p B wr L'→At p ⟨c,0,none⟩ (.pointer (some ⟨p,0,none⟩)) wr→B≤wr.heap.size→(L'++enc x).length≤1099511627776→Calls Tryz.prog 194 #[.agg vs.toArray,.pointer (some ⟨c,0,none⟩)] wr (WrE p B wr (L'++enc x))) :
  Calls Tryz.prog 193 #[.pointer (some ⟨p,0,none⟩),.slice A n cap,.func (.func 194) #[] #[.pointer (some ⟨c,0,none⟩)]] w (WrE p B w (L++ak enc l)):=by
 obtain ⟨A',c',hsl,hlc,hcm⟩:=hv.shape
 injection hsl with e1 e2 e3
 subst e1 e3
 unfold maxLen at hcm
 have HM:=qH e2
 have HV:=qH hv
 have HCL:=qH HC
 have HAt:=qH hc
 have HBel:=qH (fun (w':World) (h:Kp p w w') => h.below hw)
 have HS:Hid ((L++(encN n++l.flatMap enc)).length≤1099511627776):=qH (by rw [e2]; exact hsz)
 have hsn:(L++encN n).length≤1099511627776:=by
  have:=HS.out
  rw [<- List.append_assoc,List.length_append] at this
  omega
 have hE:L++ak enc l = L++(encN n++l.flatMap enc):=by rw [e2]; rfl
 rw [hE]
 have CN:=qH (aH p B [(n:Int)] L w hw (by simp) (by intro m h; rw [List.mem_singleton.1 h]; unfold I64; omega) hB (by simpa using hsn))
 rw [show [(n:Int)].flatMap encN = encN n by simp] at CN
 have hnn:n≤9223372036854775807:=by omega
 clear hv HC hc hsz hE e2 hw hlc hsn
 go_enter Tryz.func193,Tryz.ntmps193
 go_wp2_with fail
 refine CN.out.mono ?_
 rintro e w1 ⟨rfl,hw1,hk1⟩
 have HI0:Hid (WrS p B w1 (L++encN n++(l.take 0).flatMap enc)∧Kp p w w1):=qH ⟨by simpa using hw1,hk1⟩
 clear hw1 hk1 CN
 go_wp2_with fail
 go_loopw [15] (fun iv wr => ∃ k:Nat,k≤n∧iv = .int .i64 (k:Int)∧Hid (WrS p B wr (L++encN n++(l.take k).flatMap enc)∧Kp p w wr)) (fun iv _ => n - (intOf iv).toNat)
 case atStart => exact ⟨0,Nat.zero_le _,rfl,HI0⟩
 obtain ⟨k,hk,rfl,HK⟩:=hrel
 clear HI0
 by_cases hlt:k < n
 ·have hlt':(k:Int) < (n:Int):=by omega
  obtain ⟨x,hx⟩:∃ x,l[k]? = some x:=⟨l[k]'(by rw [<- HM.out]; exact hlt),by simp⟩
  have hvr:=HV.out.below hR hG (HBel.out wr HK.out.2)
  obtain ⟨b,o,vs,rfl,hgb,hbw,hvl,hRx,hcs⟩:=hvr.at k x hx
  obtain ⟨v0,v1,rfl⟩:=len_2 hvl
  have HV2:Hid (R wr G [v0,v1] x∧b < wr.heap.size∧∀ (j:Nat) (u:Value),[v0,v1][j]? = some u→wr.cell? ⟨b,o + k * 2 + j,none⟩ = some u):=qH ⟨hRx,hbw,hcs⟩
  have c0:=HV2.out.2.2 0 v0 rfl
  have c1:=HV2.out.2.2 1 v1 rfl
  simp only [Nat.add_zero] at c0
  have HT:Hid (L++encN n++(l.take (k + 1)).flatMap enc = L++encN n++(l.take k).flatMap enc++enc x):=qH (by
   rw [List.take_add_one,hx,List.flatMap_append,List.append_assoc _ _ (enc x)]
   simp)
  have hll:(L++encN n++(l.take k).flatMap enc++enc x).length≤1099511627776:=by
   rw [<- HT.out]
   have h2:=HS.out
   rw [<- List.take_append_drop (k + 1) l,List.flatMap_append,<- List.append_assoc,<- List.append_assoc,List.length_append] at h2
   omega
  have hp:=HK.out.1.buf.lt
  have hBr:B≤wr.heap.size:=Nat.le_trans hB HK.out.2.size
  have HX:=qH (HCL.out (wr.alloc (.cells #[v0,v1] 187)) [v0,v1] x _ (List.mem_of_getElem? hx) (hR wr _ G G _ x (fun _ h => h) (fun b _ hb => Below.heap_alloc wr _ b hb) hRx) (HK.out.1.alloc _) ((HAt.out.kp HK.out.2).alloc hp _) (by simp; omega) hll)
  have h1:(#[v0,v1]:Array Value).all (·.oneCell') = true:=by
   rw [Array.all_eq_true']
   intro u hu
   exact hO wr G _ x hRx u (by simpa using hu)
  clear hvr hRx hcs hvl hx hgb hbw hll
  go_wp2_with (refine wpList_store_row rfl 187 _ _ rfl wr.heap.size #[v0,v1] rfl rfl 187 _ (heap_alloc_new _ _) size187 rfl h1 ?_; rw [aC])
  refine HX.out.mono ?_
  rintro e w2 ⟨rfl,hw2,hk2⟩
  have HN:Hid (WrS p B w2 (L++encN n++(l.take (k + 1)).flatMap enc)∧Kp p w w2):=qH ⟨by rw [HT.out]; exact hw2,(HK.out.2.alloc hp _).trans hk2⟩
  clear hw2 hk2 HX
  go_wp2_with fail
  go_roundw
  case rel => exact ⟨k + 1,by omega,by go_num,HN⟩
  simp [intOf]; omega
 have hkm:k = n:=by omega
 subst hkm
 have hlt':¬ (k:Int) < (k:Int):=by omega
 go_wp2_with fail
 go_end0
 have e:l.take k = l:=List.take_of_length_le (by rw [<- HM.out]; exact Nat.le_refl _)
 obtain ⟨h1,h2⟩:=HK.out
 rw [e,List.append_assoc] at h1
 exact ⟨rfl,h1,h2⟩
end Go.Proofs.YtmhhcfceikcfbaaGreat
namespace Go.Proofs.YtmhhcfceikcfbaaGreat
open Go.RowKit
set_option maxRecDepth 100000
set_option maxHeartbeats 4000000
def Rdr (ty:TypeId) (r:Nat) (s:ByteArray) (k:Nat) (e:Int) (w:World):Prop:=w.heap[r]? = some (.cells #[.string s,.int .i64 (k:Int),.int .i64 e] ty (0,0))
theorem Rdr.cells {ty:TypeId} {r k:Nat} {s:ByteArray} {e:Int} {w:World} (h:Rdr ty r s k e w) :
  w.cell? ⟨r,0,none⟩ = some (.string s)∧w.cell? ⟨r,1,none⟩ = some (.int .i64 (k:Int))∧w.cell? ⟨r,2,none⟩ = some (.int .i64 e)∧w.frozen? ⟨r,1,none⟩ = false∧w.frozen? ⟨r,2,none⟩ = false :=
 ⟨aa h 0,aa h 1,aa h 2,blk_free h 1,blk_free h 2⟩
theorem Rdr.setAt {ty:TypeId} {r k:Nat} {s:ByteArray} {e:Int} {w:World} (h:Rdr ty r s k e w) (k':Nat):Rdr ty r s k' e (w.setCell ⟨r,1,none⟩ (.int .i64 (k':Int))) :=
 heap_setCell_same w r 1 #[.string s,.int .i64 (k:Int),.int .i64 e] ty (.int .i64 (k':Int)) h
theorem Rdr.setErr {ty:TypeId} {r k:Nat} {s:ByteArray} {e:Int} {w:World} (h:Rdr ty r s k e w) (e':Int):Rdr ty r s k e' (w.setCell ⟨r,2,none⟩ (.int .i64 e')) :=
 heap_setCell_same w r 2 #[.string s,.int .i64 (k:Int),.int .i64 e] ty (.int .i64 e') h
theorem grown_set (w:World) (g j:Nat) (u:Value):w.grownBy (w.setCell ⟨g,j,none⟩ u) (some g) :=
 ⟨rfl,rfl,rfl,by simp,fun k _ hk => heap_setCell_other w ⟨g,j,none⟩ k u (fun e => hk (by simp [e]))⟩
theorem an {a b c:World} {row:Option Nat} (h:a.grownBy b row) (k:b.grownBy c row):a.grownBy c row :=
 ⟨k.os.trans h.os,k.tape.trans h.tape,k.output.trans h.output,Nat.le_trans h.size k.size,fun i hi hr => (k.block i (Nat.lt_of_lt_of_le hi h.size) hr).trans (h.block i hi hr)⟩
theorem aZ {a b:World} {row:Option Nat} (h:a.grownBy b row) (n:Nat):a.grownBy (b.drewN n) row:=⟨h.os,h.tape,h.output,h.size,h.block⟩
theorem Rdr.drewN {ty:TypeId} {r k:Nat} {s:ByteArray} {e:Int} {w:World} (h:Rdr ty r s k e w) (n:Nat):Rdr ty r s k e (w.drewN n):=h
def Res {α:Type} (p:Rd α) (s:ByteArray) (k:Nat) (e:Int) (x:α) (k':Nat) (e':Int):Prop :=
 k'≤s.size∧(e≠0→e' = e)∧(e = 0→match p ((al s).drop k) with | .ok y n => x = y∧k' = k + n∧e' = 0 | .err E => e' = E∧E≠0)
theorem byte_at {s:ByteArray} {k:Nat} (h:k < s.size):(al s).drop k = s[k].toNat::(al s).drop (k + 1):=by
 have hl:k < (al s).length:=by rw [aE]; exact h
 rw [List.drop_eq_getElem_cons hl]
 congr 1
 simp [al]
 rfl
theorem fail97 (r k:Nat) (s:ByteArray) (E:Int) (w:World) (h:Rdr 99 r s k 0 w) :
  Calls Tryz.prog 97 #[.pointer (some ⟨r,0,none⟩),.int .i64 E] w fun e w' => e = .returned (.tuple #[])∧Rdr 99 r s k E w'∧w.grownBy w' (some r):=by
 obtain ⟨c0,c1,c2,f1,f2⟩:=h.cells
 have HS:=qH (h.setErr E)
 clear h
 go_enter Tryz.func97,Tryz.ntmps97
 go_wp2_with fail
 go_end0
 exact ⟨rfl,HS.out,grown_set _ _ _ _⟩
theorem fail97_no (r k:Nat) (s:ByteArray) (e0 E:Int) (w:World) (h:Rdr 99 r s k e0 w) (he:e0≠0) :
  Calls Tryz.prog 97 #[.pointer (some ⟨r,0,none⟩),.int .i64 E] w fun e w' => e = .returned (.tuple #[])∧w = w':=by
 obtain ⟨c0,c1,c2,f1,f2⟩:=h.cells
 have d0:(e0 == 0) = false:=by simpa using he
 clear h
 go_enter Tryz.func97,Tryz.ntmps97
 go_wp2_with fail
 go_end0
 exact ⟨rfl,rfl⟩
theorem fail44 (r k:Nat) (s:ByteArray) (E:Int) (w:World) (h:Rdr 30 r s k 0 w) :
  Calls Tryz.prog 44 #[.pointer (some ⟨r,0,none⟩),.int .i64 E] w fun e w' => e = .returned (.tuple #[])∧Rdr 30 r s k E w'∧w.grownBy w' (some r):=by
 obtain ⟨c0,c1,c2,f1,f2⟩:=h.cells
 have HS:=qH (h.setErr E)
 clear h
 go_enter Tryz.func44,Tryz.ntmps44
 go_wp2_with fail
 go_end0
 exact ⟨rfl,HS.out,grown_set _ _ _ _⟩
theorem fail44_no (r k:Nat) (s:ByteArray) (e0 E:Int) (w:World) (h:Rdr 30 r s k e0 w) (he:e0≠0) :
  Calls Tryz.prog 44 #[.pointer (some ⟨r,0,none⟩),.int .i64 E] w fun e w' => e = .returned (.tuple #[])∧w = w':=by
 obtain ⟨c0,c1,c2,f1,f2⟩:=h.cells
 have d0:(e0 == 0) = false:=by simpa using he
 clear h
 go_enter Tryz.func44,Tryz.ntmps44
 go_wp2_with fail
 go_end0
 exact ⟨rfl,rfl⟩
def NumS (s:ByteArray) (k0:Nat) (R:Rs Int) (i u k:Nat):Prop:=k = k0 + i∧R = ((rdV i u ((al s).drop k)).more i).map unzz
theorem dig_or {u v i:Nat} (hu:u < 128 ^ i) (_hv:v < 128) (hs:u + v * 128 ^ i < 18446744073709551616) :
  IntKind.u64.wrap ((v:Int) * 2 ^ (7 * i)) = ((v * 128 ^ i:Nat):Int)∧bits .or .u64 (u:Int) ((v * 128 ^ i:Nat):Int) = ((u + v * 128 ^ i:Nat):Int):=by
 have hp:(128:Nat) ^ i = 2 ^ (7 * i):=by rw [Nat.pow_mul]
 have hc:(v:Int) * 2 ^ (7 * i) = ((v * 128 ^ i:Nat):Int):=by rw [hp]; push_cast; rfl
 refine ⟨by rw [hc,IntKind.wrap_u64]; omega,?_⟩
 rw [bits_or_u64_nat _ _ (by omega) (by omega)]
 congr 1
 have:=Nat.two_pow_add_eq_or_of_lt (i:=7 * i) (b:=u) (by rw [<- hp]; exact hu) v
 rw [hp] at *
 rw [Nat.or_comm,Nat.mul_comm v,<- this,Nat.add_comm]
theorem rdV_bad {i u b:Nat} {r:List Nat} (h:(i = 9∧1 < b)∨(0 < i∧b = 0)):rdV i u (b::r) = .err 15:=by rw [rdV,if_pos h]
theorem rdV_last {i u b:Nat} {r:List Nat} (h:¬ ((i = 9∧1 < b)∨(0 < i∧b = 0))) (hb:b < 128):rdV i u (b::r) = .ok (u + b * 128 ^ i) 1:=by rw [rdV,if_neg h,if_pos hb]
theorem rdV_more {i u b:Nat} {r:List Nat} (h:¬ ((i = 9∧1 < b)∨(0 < i∧b = 0))) (hb:¬ b < 128):rdV i u (b::r) = (rdV (i + 1) (u + (b - 128) * 128 ^ i) r).more 1:=by rw [rdV,if_neg h,if_neg hb]
theorem pow_le9 {i:Nat} (h:i≤8):(128:Nat) ^ i * 128≤9223372036854775808:=by
 have:(128:Nat) ^ (i + 1)≤128 ^ 9:=Nat.pow_le_pow_right (by decide) (by omega)
 rw [Nat.pow_succ] at this
 omega
theorem dig_lt {u b i:Nat} (hu:u < 128 ^ i) (hi:i≤9) (hb:b < 256) (hg:¬ ((i = 9∧1 < b)∨(0 < i∧b = 0))):u + b % 128 * 128 ^ i < 18446744073709551616∧(i < 9→u + b % 128 * 128 ^ i < 128 ^ (i + 1)):=by
 by_cases h9:i = 9
 ·subst h9
  have:b≤1:=by
   rcases Nat.lt_or_ge 1 b with h | h
   ·exact absurd (.inl ⟨rfl,h⟩) hg
   exact h
  have h2:b % 128 = b:=Nat.mod_eq_of_lt (by omega)
  rw [h2]
  have:=Nat.mul_le_mul_right (128 ^ 9) this
  refine ⟨by omega,fun h => by omega⟩
 have h1:b % 128≤127:=by omega
 have h2:=Nat.mul_le_mul_right (128 ^ i) h1
 have h3:=pow_le9 (i:=i) (by omega)
 rw [Nat.pow_succ]
 refine ⟨by omega,fun _ => by omega⟩
theorem unzz_even {u:Nat} (h:u % 2 = 0):unzz u = ((u / 2:Nat):Int):=by unfold unzz; rw [if_neg (by omega)]
theorem unzz_odd {u:Nat} (h:u % 2 = 1):unzz u = -((u / 2:Nat):Int) - 1:=by unfold unzz; rw [if_pos h]
theorem xor_zero64 (h:Nat) (hh:h < 9223372036854775808):bits .xor .i64 (h:Int) 0 = (h:Int):=by
 show IntKind.i64.wrap ((BitVec.ofInt 64 (h:Int) ^^^ BitVec.ofInt 64 0).toNat:Int) = _
 have h2:(BitVec.ofInt 64 (h:Int)).toNat = h:=by
  rw [BitVec.ofInt_natCast,BitVec.toNat_ofNat]; exact Nat.mod_eq_of_lt (by omega)
 have h1:(BitVec.ofInt 64 0).toNat = 0:=by decide
 rw [BitVec.toNat_xor,h1,h2,Nat.xor_zero,IntKind.wrap_i64]
 omega
theorem xor_ones (h:Nat) (hh:h < 9223372036854775808):bits .xor .i64 (h:Int) (-1) = -(h:Int) - 1:=by
 rw [<- Lib.i64_not h hh]
 show IntKind.i64.wrap ((BitVec.ofInt 64 (h:Int) ^^^ BitVec.ofInt 64 (-1)).toNat:Int) = IntKind.i64.wrap ((BitVec.ofInt 64 (-1) ^^^ BitVec.ofInt 64 (h:Int)).toNat:Int)
 rw [BitVec.xor_comm]
theorem not_half (h:Nat) (hh:h < 9223372036854775808):bits .xor .u64 IntKind.u64.max (h:Int) = ((18446744073709551615 - h:Nat):Int)∧IntKind.i64.wrap ((18446744073709551615 - h:Nat):Int) = -(h:Int) - 1:=by
 have e2:IntKind.u64.max = ((2 ^ 64 - 1:Nat):Int):=by decide
 refine ⟨?_,by rw [IntKind.wrap_i64]; omega⟩
 rw [e2,bits_xor_u64_nat _ _ (by decide) (by omega),Lib.xor_ones64 _ (by omega)]
end Go.Proofs.YtmhhcfceikcfbaaGreat
