/- Walks: a template parsed. -/
import Derived.Lib.ConvBytes
import Derived.Test.YtmhhcfceikcfbaaGreatDeN9
namespace Go.Proofs.YtmhhcfceikcfbaaGreat
open Go.RowKit
set_option maxRecDepth 100000
set_option maxHeartbeats 4000000
def ctlB (u:UInt8):Bool:=decide (u.toNat < 32) || decide (u.toNat = 127)
theorem clo224 (u:UInt8) (w:World):Calls Tryz.prog 224 #[.int .u8 (u.toNat:Int)] w fun e w' => e = .returned (.bool (ctlB u))∧w = w':=by
 by_cases h1:u.toNat < 32
 ·have g1:decide ((u.toNat:Int) < 32) = true:=by simp; omega
  have g2:decide (u.toNat < 32) = true:=by simpa using h1
  have HF:=qH (show ctlB u = true by unfold ctlB; simp [h1])
  go_enter Tryz.func224,Tryz.ntmps224
  go_wp2_with fail
  go_ret
  exact ⟨by rw [HF.out]; rfl,rfl⟩
 have g1:decide ((u.toNat:Int) < 32) = false:=by simp; omega
 have g2:decide (u.toNat < 32) = false:=by simpa using h1
 by_cases h2:u.toNat = 127
 ·have g3:((u.toNat:Int) == 127) = true:=by rw [h2]; rfl
  have g4:(u.toNat == 127) = true:=by rw [h2]; rfl
  have HF:=qH (show ctlB u = true by unfold ctlB; simp [h2])
  go_enter Tryz.func224,Tryz.ntmps224
  go_wp2_with fail
  go_ret
  exact ⟨by rw [HF.out]; rfl,rfl⟩
 have g3:((u.toNat:Int) == 127) = false:=by rw [beq_eq_false_iff_ne]; omega
 have g4:(u.toNat == 127) = false:=by rw [beq_eq_false_iff_ne]; exact h2
 have HF:=qH (show ctlB u = false by unfold ctlB; simp [h1,h2])
 go_enter Tryz.func224,Tryz.ntmps224
 go_wp2_with fail
 go_ret
 exact ⟨by rw [HF.out]; rfl,rfl⟩
theorem idx229 (b cp:Nat) (l:List UInt8) (w:World) (hc:∀ (j:Nat) (u:UInt8),l[j]? = some u→w.cell? ⟨b,j,none⟩ = some (.int .u8 (u.toNat:Int))) (hz:l.length≤1000):Calls Tryz.prog 229 #[.slice (some ⟨b,0,none⟩) l.length cp,.func (.func 224) #[] #[]] w fun e w' => e = .returned (.int .i64 (idxP ctlB l))∧w = w':=by
 obtain ⟨n,hn⟩:=gX (l.length)
 rw [<- hn] at hz ⊢
 have HN:=qH hn
 have HC:=qH hc
 obtain ⟨V,hV⟩:=gX (idxP ctlB l)
 rw [<- hV]
 have HVV:=qH hV
 clear hc hn hV
 go_enter Tryz.func229,Tryz.ntmps229
 go_wp2_with fail
 go_loop [8] (fun iv => ∃ i:Nat,iv = .int .i64 (i:Int)∧i≤n∧Hid (∀ y∈l.take i,ctlB y = false)) (fun iv => n - (intOf iv).toNat)
 case atStart => exact ⟨0,rfl,Nat.zero_le _,qH (fun y hy => by simp at hy)⟩
 obtain ⟨i,rfl,hin,HI⟩:=hrel
 by_cases hlt:i < n
 ·have hlt':(i:Int) < (n:Int):=by omega
  obtain ⟨x,hx⟩:∃ x,l[i]? = some x:=⟨_,List.getElem?_eq_getElem (by rw [<- HN.out]; exact hlt)⟩
  have e0:=HC.out i x hx
  have C:=qH (clo224 x w)
  have HX:=qH hx
  obtain ⟨r,hr⟩:=gX (ctlB x)
  rw [<- hr] at C
  have HR:=qH hr
  clear hx hr
  go_wp2_with fail
  refine C.out.mono ?_
  rintro e w2 ⟨rfl,rfl⟩
  clear C e0
  cases r
  ·have HI2:=qH (take_all HI.out HX.out HR.out.symm)
   clear HI HR
   go_wp2_with fail
   go_round
   case rel => exact ⟨i + 1,by go_num,by omega,HI2⟩
   simp [intOf]; omega
  have HF:=qH (idxP_hit HI.out HX.out HR.out.symm)
  clear HI HR
  go_wp2_with fail
  go_ret
  exact ⟨by rw [HVV.out,HF.out]; rfl,rfl⟩
 have hlt':¬ (i:Int) < (n:Int):=by omega
 have HF:=qH (idxP_none (p:=ctlB) (l:=l) (by
  have h1:=HI.out
  rw [List.take_of_length_le (by rw [<- HN.out]; omega)] at h1
  exact h1))
 clear HI
 go_wp2_with fail
 go_ret
 exact ⟨by rw [HVV.out,HF.out]; rfl,rfl⟩
theorem has223 (b cp:Nat) (l:List UInt8) (w:World) (hc:∀ (j:Nat) (u:UInt8),l[j]? = some u→w.cell? ⟨b,j,none⟩ = some (.int .u8 (u.toNat:Int))) (hz:l.length≤1000):Calls Tryz.prog 223 #[.slice (some ⟨b,0,none⟩) l.length cp,.func (.func 224) #[] #[]] w fun e w' => e = .returned (.bool (decide (0≤idxP ctlB l)))∧w = w':=by
 have C:=qH (idx229 b cp l w hc hz)
 obtain ⟨n,hn⟩:=gX (l.length)
 obtain ⟨V,hV⟩:=gX (idxP ctlB l)
 rw [<- hn] at C ⊢
 rw [<- hV] at C ⊢
 clear hn hV hc hz
 by_cases h:0≤V
 ·have g1:decide (0≤V) = true:=by simpa using h
  have g2:decide (V < 0) = false:=by simp; omega
  clear h
  go_enter Tryz.func223,Tryz.ntmps223
  go_wp2_with fail
  refine C.out.mono ?_
  rintro e w2 ⟨rfl,rfl⟩
  go_wp2_with fail
  go_ret
  exact ⟨by rw [g1]; rfl,rfl⟩
 have g1:decide (0≤V) = false:=by simpa using h
 have g2:decide (V < 0) = true:=by simp; omega
 clear h
 go_enter Tryz.func223,Tryz.ntmps223
 go_wp2_with fail
 refine C.out.mono ?_
 rintro e w2 ⟨rfl,rfl⟩
 go_wp2_with fail
 go_ret
 exact ⟨by rw [g1]; rfl,rfl⟩
def q00:ScQ:=⟨0,[],[],0,0⟩
def ctlS (s:ByteArray):Bool:=decide (0≤idxP ctlB s.data.toList)
def parE (s:ByteArray):Int:=if 64 < s.size then 10 else if (pts (al s)).isSome = false then 12 else if ctlS s = true then 5 else (scanQ s q00).e
def parL (s:ByteArray):List Prt:=if parE s = 0 then (scanQ s q00).L else []
def ParR (s:ByteArray) (w:World) (e:Ending) (w':World):Prop:=∃ v,e = .returned (.tuple #[v,.int .i64 (parE s)])∧Below w.heap.size w w'∧Sl ptV 3 w' w'.heap.size v (parL s)
theorem ptV_len (p:Prt):(ptV p).length = 3:=rfl
theorem grown_freeze2 (w:World) (g o n:Nat):w.grownBy (w.freeze ⟨g,o,none⟩ n) (some g):=by
 unfold World.freeze
 split
 ·exact ⟨rfl,rfl,rfl,Nat.le_refl _,fun _ _ _ => rfl⟩
 refine ⟨rfl,rfl,rfl,by simp,fun k _ hk => ?_⟩
 have:g≠k:=fun e => hk (by rw [e])
 simp [Array.getElem?_modify,this]
theorem bytesWorld_below (w:World) (e:TypeId) (s:ByteArray):Below w.heap.size w (Lib.bytesWorld w e s):=by
 unfold Lib.bytesWorld
 have h1:Below w.heap.size w (w.drew.alloc (.cells (Lib.bytesCells w e s) e)):=(Below.refl _ w).drew.alloc (Nat.le_refl _) _
 have h2:=grown_freeze2 (w.drew.alloc (.cells (Lib.bytesCells w e s) e)) w.heap.size (Lib.bytesCells w e s).size 1
 exact ⟨h2.os.trans h1.os,h2.tape.trans h1.tape,h2.output.trans h1.output,Nat.le_trans h1.size h2.size,fun k hk => (h2.block k (Nat.lt_of_lt_of_le hk h1.size) (fun e => by have:=Option.some.inj e; omega)).trans (h1.block k hk)⟩
theorem par_err {s:ByteArray} {E:Int} (h:parE s = E) (h0:E≠0):parL s = []:=by
 unfold parL
 rw [if_neg (by rw [h]; exact h0)]
theorem parR_err {s:ByteArray} {w w':World} {E:Int} (h:parE s = E) (h0:E≠0) (hb:Below w.heap.size w w'):ParR s w (.returned (.tuple #[.slice none 0 0,.int .i64 E])) w' :=
 ⟨_,by rw [h],hb,by rw [par_err h h0]; exact (Own.nil w' 0 (enc:=ptV) (sz:=3) (E:=290)).sl ptV_len⟩
theorem parse214 (s:ByteArray) (w:World) (hs:s.size≤1048576000):Calls Tryz.prog 214 #[.string s] w (ParR s w):=by
 obtain ⟨n,hn⟩:=gX (s.size)
 have HN:=qH hn
 by_cases h64:64 < s.size
 case pos =>
  have f1:decide ((64:Int) < (s.size:Int)) = true:=by simp; omega
  have f2:decide (64 < s.size) = true:=by simpa using h64
  have HF:=qH (show parE s = 10 by unfold parE; rw [if_pos h64])
  clear h64 hs hn
  go_enter Tryz.func214,Tryz.ntmps214
  go_wp2_with fail
  go_ret2
  exact parR_err HF.out (by decide) (Below.refl _ _)
 have f1:decide ((64:Int) < (s.size:Int)) = false:=by simp; omega
 have f2:decide (64 < s.size) = false:=by simpa using h64
 have CV:=qH (valid_lib s w hs)
 have HE0:=qH (show parE s = if (pts (al s)).isSome = false then 12 else if ctlS s = true then 5 else (scanQ s q00).e by unfold parE; rw [if_neg h64])
 obtain ⟨vb,hvb⟩:=gX ((pts (al s)).isSome)
 rw [<- hvb] at CV HE0
 clear hvb
 go_enter Tryz.func214,Tryz.ntmps214
 go_wp2_with fail
 refine CV.out.mono ?_
 rintro e w1 ⟨rfl,rfl⟩
 clear CV
 cases vb
 case false =>
  have HF:=qH (show parE s = 12 from HE0.out)
  clear HE0 h64 hs hn
  go_wp2_with fail
  go_ret2
  exact parR_err HF.out (by decide) (Below.refl _ _)
 have HE1:=qH (show parE s = if ctlS s = true then 5 else (scanQ s q00).e from HE0.out)
 have cvr:=Lib.run_convert_string_bytes (P:=Tryz.prog) w 9 93 5 s Tryz.underlying9 Tryz.underlying93 Tryz.underlying5
 have hbw:=bytesWorld_below w 5 s
 have hcl:∀ (j:Nat) (u:UInt8),s.data.toList[j]? = some u→(Lib.bytesWorld w 5 s).cell? ⟨w.heap.size,j,none⟩ = some (.int .u8 (u.toNat:Int)):=fun j u hu => by
  have hj:j < s.size:=by
   have:=(List.getElem?_eq_some_iff.1 hu).1
   simpa using this
  rw [Lib.bytesWorld_cell w 5 s j hj]
  simp only [List.getD,hu,Option.getD_some]
 obtain ⟨gc,hgc⟩:=gX (grownCap w s.size 0 5)
 rw [<- hgc] at cvr
 obtain ⟨W,hW⟩:=gX (Lib.bytesWorld w 5 s)
 rw [<- hW] at cvr hbw hcl
 obtain ⟨N,hN⟩:=gX (w.heap.size)
 have HNN:=qH hN
 rw [<- hN] at cvr hbw hcl
 have hln:s.data.toList.length = s.size:=by simp
 have CI0:=has223 N gc s.data.toList W hcl (by rw [hln]; omega)
 rw [hln] at CI0
 have CI:=qH CI0
 obtain ⟨cb,hcb⟩:=gX (ctlS s)
 change Hid (Calls _ _ _ _ fun e w' => e = .returned (.bool (ctlS s))∧_) at CI
 rw [<- hcb] at CI HE1
 have HB:=qH hbw
 clear CI0 hcb hW hN hgc hcl hbw HE0 hln
 go_upto_region 5 with fail
 refine ac (by rfl) ?_
 simp only [List.map]
 refine sq1 (.string s) ?_
 refine au (.slice (some ⟨N,0,none⟩) s.size gc) W (by
  simp only [execOp,Act.eval,Sem.run_bind]
  go_simp) trivial ?_
 simp only [Act.put,PutA,PutZ,PutS]
 refine af 223 #[.slice (some ⟨N,0,none⟩) s.size gc,.func (.func 224) #[] #[]] (by go_simp) ?_
 refine CI.out.mono ?_
 rintro e w2 ⟨rfl,rfl⟩
 clear CI cvr
 refine ⟨_,rfl,trivial,?_⟩
 simp only [Act.put,PutA,PutZ,PutS]
 refine sq1b cb ?_
 refine ad ?_
 cases cb
 case true =>
  have HF:=qH (show parE s = 5 from HE1.out)
  clear HE1 h64 hs hn
  go_wp2_with fail
  go_ret2
  exact parR_err HF.out (by decide) (by rw [<- HNN.out]; exact HB.out)
 have HE2:=qH (show parE s = (scanQ s q00).e from HE1.out)
 have HL2:=qH (show parE s = 0→parL s = (scanQ s q00).L from fun h => by unfold parL; rw [if_pos h])
 obtain ⟨c,hc⟩:=gX (W.heap.size)
 obtain ⟨W2,hW2⟩:=gX (W.alloc (.cells #[.string s,.int .i64 0,.pointer none,.slice none 0 0,.slice none 0 0,.int .i64 0,.int .i64 0] 307))
 have hblk:W2.heap[c]? = some (.cells #[.string s,.int .i64 0,.pointer none,.slice none 0 0,.slice none 0 0,.int .i64 0,.int .i64 0] 307 (0,0)):=by rw [hW2]; exact ah _ _ hc
 have hSc:ScAt c s q00 (.pointer none) (.slice none 0 0) (.slice none 0 0) W2:=⟨hblk,.inl rfl,Own.nil _ _,Own.nil _ _⟩
 have C:=qH (scan225 c s q00 _ _ _ W2 hSc ⟨rfl,Nat.le_refl _,Nat.le_refl _,by decide⟩ (by omega))
 have HB2:Hid (Below N w W2):=qH (by rw [hW2]; exact HB.out.alloc (by rw [HNN.out]; exact HB.out.size) _)
 have HCW:Hid (N≤c):=qH (by rw [hc]; have:=HB.out.size; rw [<- HNN.out] at this; exact this)
 have HW2:=qH hW2
 have HC:=qH hc
 clear HE1 hblk hSc hW2 hc
 go_upto_region 8 with fail
 rw [<- HW2.out,<- HC.out]
 clear HW2 HC
 go_wp2_with fail
 refine C.out.mono ?_
 rintro e w3 ⟨rfl,⟨pv,bv,lv,h3⟩,hb3⟩
 have HB3:=qH (HB2.out.trans (hb3.mono HCW.out))
 obtain ⟨Q,hQ⟩:=gX (scanQ s q00)
 rw [<- hQ] at h3 HE2 HL2
 have z6:=aa h3.blk 6
 have z4:=aa h3.blk 4
 have hcb3:=h3.blk
 have HP:=qH (h3.prt.sl ptV_len)
 obtain ⟨E,hE⟩:=gX (Q.e)
 rw [<- hE] at z6 HE2 hcb3
 obtain ⟨A,cp,hlv,_,_⟩:=Own.shape h3.prt
 subst hlv
 obtain ⟨QL,hQL⟩:=gX (Q.L)
 rw [<- hQL] at z4 HP HL2 hcb3
 obtain ⟨LN,hLN⟩:=gX (QL.length)
 rw [<- hLN] at z4 HP hcb3
 clear h3 hb3 HB HB2 C hQ hE hQL hLN
 by_cases he:E = 0
 case neg =>
  have g1:(E == 0) = false:=by rw [beq_eq_false_iff_ne]; exact he
  have g2:(E != 0) = true:=by simp [bne,g1]
  have HF:=qH (parR_err (s:=s) (w:=w) (w':=w3) HE2.out he (by rw [<- HNN.out]; exact HB3.out))
  have HF2:Hid (ParR s w (.returned (.tuple #[.slice none 0 0,.int .i64 E])) w3.drew):=qH (parR_err HE2.out he (by rw [<- HNN.out]; exact HB3.out.drew))
  clear he z4
  go_upto_region 10 with fail
  have HK:=qH (Below.refl w3.heap.size w3)
  replace hcb3:w3.drew.heap[c]? = some (.cells #[.string s,.int .i64 Q.at_,pv,bv,.slice A LN cp,.int .i64 Q.pl,.int .i64 E] 307 (0,0)):=hcb3
  replace HK:=qH HK.out.drew
  refine ao (S:=fun w' => w'.heap[c]? = some (.cells #[.string s,.int .i64 Q.at_,pv,bv,.slice A LN cp,.int .i64 Q.pl,.int .i64 E] 307 (0,0))) [(true,0),(true,1),(true,2),(true,3),(true,4),(true,5)] (by kernel_rfl) (by kernel_rfl) hcb3 ?_
  simp only [aO,List.getElem?_cons_succ,List.getElem?_cons_zero]
  refine sq2p c 0 ?_
  refine sq2p c 0 ?_
  refine sq2p c 6 ?_
  refine sq2i E ?_ (fun w' hS => by have q0:=aa hS 6; go_simp)
  refine sq2 (.slice none 0 0) ?_
  refine sq2i E ?_
  refine ad ?_
  go_wp2_with fail
  go_ret2
  exact HF2.out
 subst he
 have HF:=qH (show ParR s w (.returned (.tuple #[.slice A LN cp,.int .i64 0])) w3 from ⟨_,by rw [HE2.out],by rw [<- HNN.out]; exact HB3.out,by rw [HL2.out HE2.out]; exact HP.out⟩)
 clear hcb3
 go_wp2_with fail
 go_ret2
 exact HF.out
end Go.Proofs.YtmhhcfceikcfbaaGreat
namespace Go.Proofs.YtmhhcfceikcfbaaGreat
open Go.RowKit
set_option maxRecDepth 100000
set_option maxHeartbeats 4000000
def TmpC (C:ByteArray→Int→Int):Prop:=∀ (s:ByteArray) (n:Int) (w:World),s.size≤1048576000→Calls Tryz.prog 205 #[.string s,.int .i64 n] w (RetI (C s n) w)
def lvlT (C:ByteArray→Int→Int) (l:List Lvl) (i:Nat):Int:=match l[i]? with
 | some x => if (decide (x.1 < 1) || decide (7 < x.1)) = true then 3 else if (decide (x.2.1 < 0) || decide (32767 < x.2.1)) = true then 2 else if C x.2.2.1 ((i:Int) + 1)≠0 then C x.2.2.1 ((i:Int) + 1) else if (decide (x.2.2.2 < 0) || decide ((i:Int) < x.2.2.2)) = true then 5 else 0
 | none => 0
def lvlsT (C:ByteArray→Int→Int) (l:List Lvl):Int:=if l.length = 0 then 11 else if 9 < l.length then 9 else allR (lvlT C l) l.length 0
theorem allR_at {f:Nat→Int} {n i:Nat} (h:i < n):allR f (n - i) i = if f i≠0 then f i else allR f (n - (i + 1)) (i + 1):=by
 rw [show n - i = (n - (i + 1)) + 1 by omega]
 rfl
theorem levels178 (C:ByteArray→Int→Int) (hC:TmpC C) (G:Nat→Prop) (w:World) (v:Value) (l:List Lvl) (hv:Slv lvlP 4 w G v l) (hG:∀ b,G b→b < w.heap.size) (hz:(ak lvlE l).length≤1048576000):Calls Tryz.prog 178 #[v] w (RetI (lvlsT C l) w):=by
 obtain ⟨V,hV⟩:=gX (lvlsT C l)
 rw [<- hV]
 unfold lvlsT at hV
 obtain ⟨A,cp,rfl,hlc,hcm⟩:=hv.shape
 unfold maxLen at hcm
 obtain ⟨n,hn⟩:=gX (l.length)
 obtain ⟨N,hN⟩:=gX (w.heap.size)
 rw [<- hn] at hv hlc hV ⊢
 rw [<- hN] at hG
 have HNW:Hid (N≤w.heap.size):=qH (by omega)
 have HV:=qH hv
 have HN:=qH hn
 have HG:=qH hG
 have HC:=qH hC
 have HZ:=qH hz
 have HB:Hid (Below N w w):=qH (Below.refl _ _)
 suffices hmain:Calls Tryz.prog 178 #[.slice A n cp] w (fun e w' => e = .returned (.int .i64 V)∧Below N w w') from hmain.mono (fun e w' h => ⟨h.1,by rw [<- hN]; exact h.2⟩)
 have HS:=qH hV
 clear hv hn hG hC hz hV hN
 by_cases hn0:n = 0
 case pos =>
  have f0:((n:Int) == 0) = true:=by simp [hn0]
  have f1:(n == 0) = true:=by simp [hn0]
  have HF:=qH (show V = 11 from HS.out.trans (if_pos hn0))
  clear HS hn0
  go_enter Tryz.func178,Tryz.ntmps178
  go_wp2_with fail
  go_ret
  exact ⟨by rw [HF.out]; rfl,HB.out⟩
 have f0:((n:Int) == 0) = false:=by simp [hn0]
 have f1:(n == 0) = false:=by simp [hn0]
 replace HS:=qH (HS.out.trans (if_neg hn0))
 by_cases hn1:9 < n
 case pos =>
  have f2:decide ((9:Int) < (n:Int)) = true:=by simp; omega
  have f3:decide (9 < n) = true:=by simp; omega
  have HF:=qH (show V = 9 from HS.out.trans (if_pos hn1))
  clear HS hn0 hn1
  go_enter Tryz.func178,Tryz.ntmps178
  go_wp2_with fail
  go_ret
  exact ⟨by rw [HF.out]; rfl,HB.out⟩
 have f2:decide ((9:Int) < (n:Int)) = false:=by simp; omega
 have f3:decide (9 < n) = false:=by simp; omega
 replace HS:=qH (HS.out.trans (if_neg hn1))
 have hn9:n≤9:=by omega
 clear hn0 hn1
 go_enter Tryz.func178,Tryz.ntmps178
 go_wp2_with fail
 clear f0 f1 f2 f3
 go_loopw [16] (fun iv wr => ∃ i:Nat,iv = .int .i64 (i:Int)∧i≤n∧Hid (V = allR (lvlT C l) (n - i) i)∧Hid (Below N w wr)) (fun iv _ => n - (intOf iv).toNat)
 case atStart => exact ⟨0,rfl,Nat.zero_le _,HS,HB⟩
 obtain ⟨i,rfl,hin,HT,HBr⟩:=hrel
 clear HS HB
 have HB:=HBr
 clear HBr
 by_cases hlt:i < n
 ·have hlt':(i:Int) < (n:Int):=by omega
  obtain ⟨y,hy⟩:∃ y,l[i]? = some y:=⟨_,List.getElem?_eq_getElem (by rw [<- HN.out]; exact hlt)⟩
  obtain ⟨b3,o3,us,hA3,hg3,hbw3,_,hRy,hds⟩:=HV.out.at i y hy
  have hD:=EltS.below (w:=w) hds (HG.out b3 hg3) HB.out
  obtain ⟨x0,x1,x2,x3⟩:=y
  have hsz:x2.size≤1048576000:=by
   have h1:=mem_le (e:=lvlE) (List.mem_of_getElem? hy)
   have h2:(strE x2).length≤(lvlE (x0,x1,x2,x3)).length:=by simp only [lvlE,seqE,List.length_append]; omega
   have:=strE_le x2
   have:=HZ.out
   omega
  obtain ⟨rfl,_⟩:=hRy
  have d0:=hD 0 _ rfl
  have d1:=hD 1 _ rfl
  have d2:=hD 2 _ rfl
  have d3:=hD 3 _ rfl
  simp only [Nat.add_zero] at d0
  obtain ⟨qa,hqa⟩:=gX ((decide (x0 < 1) || decide (7 < x0)))
  obtain ⟨qb,hqb⟩:=gX ((decide (x1 < 0) || decide (32767 < x1)))
  obtain ⟨qc,hqc⟩:=gX ((decide (x3 < 0) || decide ((i:Int) < x3)))
  obtain ⟨E,hE⟩:=gX (C x2 ((i:Int) + 1))
  have CC:Hid (∀ W,Calls Tryz.prog 205 #[.string x2,.int .i64 ((i:Int) + 1)] W (RetI E W)):=qH (fun W => by rw [hE]; exact HC.out x2 _ W hsz)
  have ei1:IntKind.i64.wrap ((i:Int) + 1) = (i:Int) + 1:=IntWalk.i64_in _ (by omega)
  have ei2:wrap64 ((i:Int) + 1) = (i:Int) + 1:=IntWalk.wrap64_in _ (by omega)
  obtain ⟨RR,hRR⟩:=gX (allR (lvlT C l) (n - (i + 1)) (i + 1))
  replace HT:=qH (show V = if qa = true then 3 else if qb = true then 2 else if E≠0 then E else if qc = true then 5 else RR by
   have hl:lvlT C l i = if qa = true then 3 else if qb = true then 2 else if E≠0 then E else if qc = true then 5 else 0:=by
    unfold lvlT
    rw [hy,hqa,hqb,hqc,hE]
   rw [HT.out,allR_at hlt,hl,<- hRR]
   cases qa <;> cases qb <;> cases qc <;> by_cases h:E = 0 <;> simp [h])
  have HA:=qH hqa
  have HBq:=qH hqb
  have HCq:=qH hqc
  have HRR:=qH hRR
  clear hds hy hD hsz hqa hqb hqc hE hRR
  subst hA3
  obtain ⟨d,hd⟩:=gX (wr.heap.size)
  obtain ⟨w1,hw1⟩:=gX (wr.alloc (.cells #[.int .i64 x0,.int .i64 x1,.string x2,.int .i64 x3] 112))
  have kd:w1.heap[d]? = some (.cells #[.int .i64 x0,.int .i64 x1,.string x2,.int .i64 x3] 112 (0,0)):=by rw [hw1]; exact ah _ _ hd
  have bd:Below wr.heap.size wr w1:=by rw [hw1]; exact ag _ _
  have HKd:Hid (w1.heap[d]? = some (.cells #[.int .i64 x0,.int .i64 x1,.string x2,.int .i64 x3] 112 (0,0))):=qH kd
  have HBd:=qH bd
  have HWd:=qH hw1
  have HDd:=qH hd
  clear hd hw1 kd bd
  have HB1:Hid (Below N w w1):=qH (HB.out.trans (HBd.out.mono (Nat.le_trans HNW.out HB.out.size)))
  clear HB
  have HB:=HB1
  clear HB1
  go_upto_region 8 with fail
  rw [<- HWd.out,<- HDd.out]
  clear HWd HDd d0 d1 d2 d3
  have z0:=aa HKd.out 0
  have z1:=aa HKd.out 1
  have z2:=aa HKd.out 2
  have z3:=aa HKd.out 3
  go_cut [21] from 22 to 29 (fun bv wr => bv = .bool qa∧w1 = wr)
  case first =>
   clear HT
   by_cases p1:x0 < 1
   ·have f1:decide (x0 < 1) = true:=by simpa using p1
    have dF:=qH (show qa = true by rw [HA.out]; simp [p1])
    go_wp2_with fail
    go_meet
    exact ⟨by rw [dF.out],rfl⟩
   have f1:decide (x0 < 1) = false:=by simpa using p1
   obtain ⟨q9,hq9⟩:=gX (decide (7 < x0))
   have f2:=hq9.symm
   have dF:=qH (show qa = q9 by rw [HA.out,hq9]; simp [p1])
   clear hq9
   cases q9
   ·go_wp2_with fail
    go_meet
    exact ⟨by rw [dF.out],rfl⟩
   go_wp2_with fail
   go_meet
   exact ⟨by rw [dF.out],rfl⟩
  obtain ⟨rfl,rfl⟩:=hcut
  clear HA
  cases qa
  case true =>
   have HF:=qH (show V = 3 from HT.out)
   clear HT
   go_wp2_with fail
   go_ret
   exact ⟨by rw [HF.out]; rfl,HB.out⟩
  go_upto_region 10 with fail
  go_cut [30] from 31 to 38 (fun bv wr => bv = .bool qb∧w1 = wr)
  case first =>
   clear HT
   by_cases p1:x1 < 0
   ·have f1:decide (x1 < 0) = true:=by simpa using p1
    have dF:=qH (show qb = true by rw [HBq.out]; simp [p1])
    go_wp2_with fail
    go_meet
    exact ⟨by rw [dF.out],rfl⟩
   have f1:decide (x1 < 0) = false:=by simpa using p1
   obtain ⟨q9,hq9⟩:=gX (decide (32767 < x1))
   have f2:=hq9.symm
   have dF:=qH (show qb = q9 by rw [HBq.out,hq9]; simp [p1])
   clear hq9
   cases q9
   ·go_wp2_with fail
    go_meet
    exact ⟨by rw [dF.out],rfl⟩
   go_wp2_with fail
   go_meet
   exact ⟨by rw [dF.out],rfl⟩
  obtain ⟨rfl,rfl⟩:=hcut
  clear HBq
  cases qb
  case true =>
   have HF:=qH (show V = 2 from HT.out)
   clear HT
   go_wp2_with fail
   go_ret
   exact ⟨by rw [HF.out]; rfl,HB.out⟩
  go_wp2_with fail
  refine (CC.out _).mono ?_
  rintro e w2 ⟨rfl,hb2⟩
  have HB2:Hid (Below N w w2):=qH (HB.out.trans (hb2.mono (Nat.le_trans HNW.out HB.out.size)))
  have HKd2:=qH (ai HKd.out hb2)
  clear HB hb2 z0 z1 z2 z3 CC HKd HBd
  have HB:=HB2
  clear HB2
  by_cases hr:E = 0
  case neg =>
   have br:(E == 0) = false:=by rw [beq_eq_false_iff_ne]; exact hr
   have HF:=qH (show V = E from HT.out.trans (if_pos hr))
   clear HT hr
   go_wp2_with fail
   go_ret
   exact ⟨by rw [HF.out]; rfl,HB.out⟩
  subst hr
  replace HT:Hid (V = if qc = true then 5 else RR):=qH HT.out
  have z3:=aa HKd2.out 3
  go_upto_region 15 with fail
  go_cut [55] from 46 to 54 (fun bv wr => bv = .bool qc∧w2 = wr)
  case first =>
   clear HT
   by_cases p1:x3 < 0
   ·have f1:decide (x3 < 0) = true:=by simpa using p1
    have dF:=qH (show qc = true by rw [HCq.out]; simp [p1])
    go_wp2_with fail
    go_meet
    exact ⟨by rw [dF.out],rfl⟩
   have f1:decide (x3 < 0) = false:=by simpa using p1
   obtain ⟨q9,hq9⟩:=gX (decide ((i:Int) < x3))
   have f2:=hq9.symm
   have dF:=qH (show qc = q9 by rw [HCq.out,hq9]; simp [p1])
   clear hq9
   cases q9
   ·go_wp2_with fail
    go_meet
    exact ⟨by rw [dF.out],rfl⟩
   go_wp2_with fail
   go_meet
   exact ⟨by rw [dF.out],rfl⟩
  obtain ⟨rfl,rfl⟩:=hcut
  clear HCq
  cases qc
  case true =>
   have HF:=qH (show V = 5 from HT.out)
   clear HT
   go_wp2_with fail
   go_ret
   exact ⟨by rw [HF.out]; rfl,HB.out⟩
  have HF:=qH (show V = allR (lvlT C l) (n - (i + 1)) (i + 1) from HT.out.trans HRR.out)
  clear HT z3
  go_wp2_with fail
  exact ⟨⟨i + 1,by go_num,by omega,HF,HB⟩,by simp [intOf]; omega⟩
 have hlt':¬ (i:Int) < (n:Int):=by omega
 have hii:i = n:=by omega
 have HF:=qH (show V = 0 by rw [HT.out,hii,Nat.sub_self]; rfl)
 clear HT hii
 go_wp2_with fail
 go_ret
 exact ⟨by rw [HF.out]; rfl,HB.out⟩
end Go.Proofs.YtmhhcfceikcfbaaGreat
