/- Walks: names, code points counted. -/
import Derived.Test.YtmhhcfceikcfbaaGreatDeP2
import Derived.Test.YtmhhcfceikcfbaaGreatDeV1
namespace Go.Proofs.YtmhhcfceikcfbaaGreat
open Go.RowKit
set_option maxRecDepth 100000
set_option maxHeartbeats 4000000
def letC (c:Nat):Bool:=decide (65≤c∧c≤90∨97≤c∧c≤122)
def othC (c:Nat):Bool:=decide (48≤c∧c≤57∨c = 45∨c = 95)
def nmR:List Nat→Bool
 | [] => true
 | c::r => (letC c || othC c) && nmR r
def nmL:List Nat→Bool
 | [] => true
 | c::r => letC c && nmR r
def nameB (s:ByteArray):Bool:=decide (1≤s.size∧s.size≤40) && nmL (al s)
def nmA (i:Nat) (l:List Nat):Bool:=if i = 0 then nmL l else nmR l
theorem nmA_step {i c:Nat} {r:List Nat}:nmA i (c::r) = ((letC c || (decide (0 < i) && othC c)) && nmA (i + 1) r):=by
 unfold nmA
 rw [if_neg (Nat.succ_ne_zero i)]
 by_cases h:i = 0
 ·subst h; simp [nmL]
 rw [if_neg h]
 have:0 < i:=by omega
 simp [nmR,this]
theorem or32:∀ c:Nat,c < 256→bits BinOp.or IntKind.u8 (c:Int) 32 = ((c ||| 32:Nat):Int):=by decide +kernel
theorem or32_let:∀ c:Nat,c < 256→(letC c = true↔97≤c ||| 32∧c ||| 32≤122):=by unfold letC; decide +kernel
theorem and192:∀ c:Nat,c < 256→bits BinOp.and IntKind.u8 (c:Int) 192 = ((c &&& 192:Nat):Int):=by decide +kernel
theorem isName185 (s:ByteArray) (w:World):Calls Tryz.prog 185 #[.string s] w fun e w' => e = .returned (.bool (nameB s))∧Below w.heap.size w w':=by
 by_cases h0:1≤s.size
 ·by_cases h1:s.size≤40
  ·have p0:¬ (s.size:Int) < 1:=by omega
   have p1:¬ (s.size:Int) > 40:=by omega
   have HV:Hid (nameB s = nmA 0 ((al s).drop 0)):=qH (by unfold nameB nmA; simp [h0,h1])
   obtain ⟨V,hV⟩:=gX (nameB s)
   rw [<- hV] at HV ⊢
   clear hV
   go_enter Tryz.func185,Tryz.ntmps185
   go_wp2_with fail
   go_loop [17] (fun kv => ∃ k:Nat,k≤s.size∧kv = .int .i64 k∧Hid (V = nmA k ((al s).drop k))) (fun kv => s.size - (intOf kv).toNat)
   case atStart => exact ⟨0,by omega,rfl,HV⟩
   obtain ⟨k,hk,rfl,HK⟩:=hrel
   clear HV
   by_cases hlt:k < s.size
   ·obtain ⟨c,hc⟩:∃ c,s[k].toNat = c:=⟨_,rfl⟩
    have hc2:c < 256:=by rw [<- hc]; exact s[k].toNat_lt
    have hlt':(k:Int) < s.size:=by omega
    have HS:Hid (V = ((letC c || (decide (0 < k) && othC c)) && nmA (k + 1) ((al s).drop (k + 1)))):=qH (by rw [HK.out,bL s k hlt,nmA_step,hc])
    have hor:=or32 c hc2
    have HL:=qH (or32_let c hc2)
    obtain ⟨x,hx⟩:=gX (c ||| 32)
    rw [<- hx] at hor HL
    clear hx HK
    have hcl:(97≤x∧x≤122)∨x < 97∨122 < x:=by omega
    rcases hcl with hl | hl | hl
    ·have x1:(x:Int) ≥ 97:=by omega
     have x2:(x:Int)≤122:=by omega
     have hco:(48≤c∧c≤57)∨(c < 48∧c≠45)∨c = 45∨(57 < c∧c≠95)∨c = 95:=by omega
     rcases hco with h | h | h | h | h
     ·have r1:(c:Int) ≥ 48:=by omega
      have r2:(c:Int)≤57:=by omega
      have HM:Hid (letC _ = true):=qH (HL.out.2 hl)
      clear HL
      go_wp2_with fail
      exact ⟨⟨k + 1,by omega,by go_num,qH (by rw [HS.out,HM.out]; simp)⟩,by simp [intOf]; omega⟩
     ·have r1:¬ (c:Int) ≥ 48:=by omega
      have r3:((c:Int) == 45) = false:=by rw [beq_eq_false_iff_ne]; omega
      have r4:((c:Int) == 95) = false:=by rw [beq_eq_false_iff_ne]; omega
      have HM:Hid (letC _ = true):=qH (HL.out.2 hl)
      clear HL
      go_wp2_with fail
      exact ⟨⟨k + 1,by omega,by go_num,qH (by rw [HS.out,HM.out]; simp)⟩,by simp [intOf]; omega⟩
     ·exact absurd (HL.out.2 hl) (by subst h; decide)
     ·have r1:(c:Int) ≥ 48:=by omega
      have r2:¬ (c:Int)≤57:=by omega
      have r3:((c:Int) == 45) = false:=by rw [beq_eq_false_iff_ne]; omega
      have r4:((c:Int) == 95) = false:=by rw [beq_eq_false_iff_ne]; omega
      have HM:Hid (letC _ = true):=qH (HL.out.2 hl)
      clear HL
      go_wp2_with fail
      exact ⟨⟨k + 1,by omega,by go_num,qH (by rw [HS.out,HM.out]; simp)⟩,by simp [intOf]; omega⟩
     exact absurd (HL.out.2 hl) (by subst h; decide)
    ·have x1:¬ (x:Int) ≥ 97:=by omega
     have hco:(48≤c∧c≤57)∨(c < 48∧c≠45)∨c = 45∨(57 < c∧c≠95)∨c = 95:=by omega
     rcases hco with h | h | h | h | h
     ·have r1:(c:Int) ≥ 48:=by omega
      have r2:(c:Int)≤57:=by omega
      have HO:Hid (othC c = true):=qH (by unfold othC; simp <;> omega)
      have HM:=qH (show letC c = false from by rw [<- Bool.not_eq_true]; intro e; have:=HL.out.1 e; omega)
      clear HL
      by_cases hk0:k = 0
      ·subst hk0
       go_wp2_with fail
       go_ret
       exact ⟨by rw [HS.out,HM.out]; simp <;> rfl,Below.refl _ _⟩
      have hk1:((k:Int) == 0) = false:=by rw [beq_eq_false_iff_ne]; omega
      have hk2:¬ (k:Int) = 0:=by omega
      go_wp2_with fail
      exact ⟨⟨k + 1,by omega,by go_num,qH (by rw [HS.out,HM.out,HO.out]; simp <;> omega)⟩,by simp [intOf]; omega⟩
     ·have r1:¬ (c:Int) ≥ 48:=by omega
      have r3:((c:Int) == 45) = false:=by rw [beq_eq_false_iff_ne]; omega
      have r4:((c:Int) == 95) = false:=by rw [beq_eq_false_iff_ne]; omega
      have HO:Hid (othC c = false):=qH (by unfold othC; simp <;> omega)
      have HM:=qH (show letC c = false from by rw [<- Bool.not_eq_true]; intro e; have:=HL.out.1 e; omega)
      clear HL
      by_cases hk0:k = 0
      ·subst hk0
       go_wp2_with fail
       go_ret
       exact ⟨by rw [HS.out,HM.out]; simp <;> rfl,Below.refl _ _⟩
      have hk1:((k:Int) == 0) = false:=by rw [beq_eq_false_iff_ne]; omega
      have hk2:¬ (k:Int) = 0:=by omega
      go_wp2_with fail
      go_ret
      exact ⟨by rw [HS.out,HM.out,HO.out]; simp <;> rfl,Below.refl _ _⟩
     ·have hor2:bits BinOp.or IntKind.u8 45 32 = (x:Int):=by rw [<- hor,h]; rfl
      have r1:¬ (c:Int) ≥ 48:=by omega
      have r3:((c:Int) == 45) = true:=by rw [beq_iff_eq]; omega
      have HO:Hid (othC c = true):=qH (by unfold othC; simp <;> omega)
      have HM:=qH (show letC c = false from by rw [<- Bool.not_eq_true]; intro e; have:=HL.out.1 e; omega)
      clear HL
      by_cases hk0:k = 0
      ·subst hk0
       go_wp2_with fail
       go_ret
       exact ⟨by rw [HS.out,HM.out]; simp <;> rfl,Below.refl _ _⟩
      have hk1:((k:Int) == 0) = false:=by rw [beq_eq_false_iff_ne]; omega
      have hk2:¬ (k:Int) = 0:=by omega
      go_wp2_with fail
      exact ⟨⟨k + 1,by omega,by go_num,qH (by rw [HS.out,HM.out,HO.out]; simp <;> omega)⟩,by simp [intOf]; omega⟩
     ·have r1:(c:Int) ≥ 48:=by omega
      have r2:¬ (c:Int)≤57:=by omega
      have r3:((c:Int) == 45) = false:=by rw [beq_eq_false_iff_ne]; omega
      have r4:((c:Int) == 95) = false:=by rw [beq_eq_false_iff_ne]; omega
      have HO:Hid (othC c = false):=qH (by unfold othC; simp <;> omega)
      have HM:=qH (show letC c = false from by rw [<- Bool.not_eq_true]; intro e; have:=HL.out.1 e; omega)
      clear HL
      by_cases hk0:k = 0
      ·subst hk0
       go_wp2_with fail
       go_ret
       exact ⟨by rw [HS.out,HM.out]; simp <;> rfl,Below.refl _ _⟩
      have hk1:((k:Int) == 0) = false:=by rw [beq_eq_false_iff_ne]; omega
      have hk2:¬ (k:Int) = 0:=by omega
      go_wp2_with fail
      go_ret
      exact ⟨by rw [HS.out,HM.out,HO.out]; simp <;> rfl,Below.refl _ _⟩
     have hor2:bits BinOp.or IntKind.u8 95 32 = (x:Int):=by rw [<- hor,h]; rfl
     have r1:(c:Int) ≥ 48:=by omega
     have r2:¬ (c:Int)≤57:=by omega
     have r3:((c:Int) == 45) = false:=by rw [beq_eq_false_iff_ne]; omega
     have r4:((c:Int) == 95) = true:=by rw [beq_iff_eq]; omega
     have HO:Hid (othC c = true):=qH (by unfold othC; simp <;> omega)
     have HM:=qH (show letC c = false from by rw [<- Bool.not_eq_true]; intro e; have:=HL.out.1 e; omega)
     clear HL
     by_cases hk0:k = 0
     ·subst hk0
      go_wp2_with fail
      go_ret
      exact ⟨by rw [HS.out,HM.out]; simp <;> rfl,Below.refl _ _⟩
     have hk1:((k:Int) == 0) = false:=by rw [beq_eq_false_iff_ne]; omega
     have hk2:¬ (k:Int) = 0:=by omega
     go_wp2_with fail
     exact ⟨⟨k + 1,by omega,by go_num,qH (by rw [HS.out,HM.out,HO.out]; simp <;> omega)⟩,by simp [intOf]; omega⟩
    have x1:(x:Int) ≥ 97:=by omega
    have x2:¬ (x:Int)≤122:=by omega
    have hco:(48≤c∧c≤57)∨(c < 48∧c≠45)∨c = 45∨(57 < c∧c≠95)∨c = 95:=by omega
    rcases hco with h | h | h | h | h
    ·have r1:(c:Int) ≥ 48:=by omega
     have r2:(c:Int)≤57:=by omega
     have HO:Hid (othC c = true):=qH (by unfold othC; simp <;> omega)
     have HM:=qH (show letC c = false from by rw [<- Bool.not_eq_true]; intro e; have:=HL.out.1 e; omega)
     clear HL
     by_cases hk0:k = 0
     ·subst hk0
      go_wp2_with fail
      go_ret
      exact ⟨by rw [HS.out,HM.out]; simp <;> rfl,Below.refl _ _⟩
     have hk1:((k:Int) == 0) = false:=by rw [beq_eq_false_iff_ne]; omega
     have hk2:¬ (k:Int) = 0:=by omega
     go_wp2_with fail
     exact ⟨⟨k + 1,by omega,by go_num,qH (by rw [HS.out,HM.out,HO.out]; simp <;> omega)⟩,by simp [intOf]; omega⟩
    ·have r1:¬ (c:Int) ≥ 48:=by omega
     have r3:((c:Int) == 45) = false:=by rw [beq_eq_false_iff_ne]; omega
     have r4:((c:Int) == 95) = false:=by rw [beq_eq_false_iff_ne]; omega
     have HO:Hid (othC c = false):=qH (by unfold othC; simp <;> omega)
     have HM:=qH (show letC c = false from by rw [<- Bool.not_eq_true]; intro e; have:=HL.out.1 e; omega)
     clear HL
     by_cases hk0:k = 0
     ·subst hk0
      go_wp2_with fail
      go_ret
      exact ⟨by rw [HS.out,HM.out]; simp <;> rfl,Below.refl _ _⟩
     have hk1:((k:Int) == 0) = false:=by rw [beq_eq_false_iff_ne]; omega
     have hk2:¬ (k:Int) = 0:=by omega
     go_wp2_with fail
     go_ret
     exact ⟨by rw [HS.out,HM.out,HO.out]; simp <;> rfl,Below.refl _ _⟩
    ·have hor2:bits BinOp.or IntKind.u8 45 32 = (x:Int):=by rw [<- hor,h]; rfl
     have r1:¬ (c:Int) ≥ 48:=by omega
     have r3:((c:Int) == 45) = true:=by rw [beq_iff_eq]; omega
     have HO:Hid (othC c = true):=qH (by unfold othC; simp <;> omega)
     have HM:=qH (show letC c = false from by rw [<- Bool.not_eq_true]; intro e; have:=HL.out.1 e; omega)
     clear HL
     by_cases hk0:k = 0
     ·subst hk0
      go_wp2_with fail
      go_ret
      exact ⟨by rw [HS.out,HM.out]; simp <;> rfl,Below.refl _ _⟩
     have hk1:((k:Int) == 0) = false:=by rw [beq_eq_false_iff_ne]; omega
     have hk2:¬ (k:Int) = 0:=by omega
     go_wp2_with fail
     exact ⟨⟨k + 1,by omega,by go_num,qH (by rw [HS.out,HM.out,HO.out]; simp <;> omega)⟩,by simp [intOf]; omega⟩
    ·have r1:(c:Int) ≥ 48:=by omega
     have r2:¬ (c:Int)≤57:=by omega
     have r3:((c:Int) == 45) = false:=by rw [beq_eq_false_iff_ne]; omega
     have r4:((c:Int) == 95) = false:=by rw [beq_eq_false_iff_ne]; omega
     have HO:Hid (othC c = false):=qH (by unfold othC; simp <;> omega)
     have HM:=qH (show letC c = false from by rw [<- Bool.not_eq_true]; intro e; have:=HL.out.1 e; omega)
     clear HL
     by_cases hk0:k = 0
     ·subst hk0
      go_wp2_with fail
      go_ret
      exact ⟨by rw [HS.out,HM.out]; simp <;> rfl,Below.refl _ _⟩
     have hk1:((k:Int) == 0) = false:=by rw [beq_eq_false_iff_ne]; omega
     have hk2:¬ (k:Int) = 0:=by omega
     go_wp2_with fail
     go_ret
     exact ⟨by rw [HS.out,HM.out,HO.out]; simp <;> rfl,Below.refl _ _⟩
    have hor2:bits BinOp.or IntKind.u8 95 32 = (x:Int):=by rw [<- hor,h]; rfl
    have r1:(c:Int) ≥ 48:=by omega
    have r2:¬ (c:Int)≤57:=by omega
    have r3:((c:Int) == 45) = false:=by rw [beq_eq_false_iff_ne]; omega
    have r4:((c:Int) == 95) = true:=by rw [beq_iff_eq]; omega
    have HO:Hid (othC c = true):=qH (by unfold othC; simp <;> omega)
    have HM:=qH (show letC c = false from by rw [<- Bool.not_eq_true]; intro e; have:=HL.out.1 e; omega)
    clear HL
    by_cases hk0:k = 0
    ·subst hk0
     go_wp2_with fail
     go_ret
     exact ⟨by rw [HS.out,HM.out]; simp <;> rfl,Below.refl _ _⟩
    have hk1:((k:Int) == 0) = false:=by rw [beq_eq_false_iff_ne]; omega
    have hk2:¬ (k:Int) = 0:=by omega
    go_wp2_with fail
    exact ⟨⟨k + 1,by omega,by go_num,qH (by rw [HS.out,HM.out,HO.out]; simp <;> omega)⟩,by simp [intOf]; omega⟩
   have HF:Hid (V = true):=qH (by rw [HK.out,List.drop_eq_nil_of_le (by rw [aE]; omega)]; unfold nmA; split <;> rfl)
   have hlt':¬ (k:Int) < s.size:=by omega
   clear HK
   go_wp2_with fail
   go_ret
   exact ⟨by rw [HF.out]; rfl,Below.refl _ _⟩
  have p0:¬ (s.size:Int) < 1:=by omega
  have p1:(s.size:Int) > 40:=by omega
  have HV:Hid (nameB s = false):=qH (by unfold nameB; simp; omega)
  go_enter Tryz.func185,Tryz.ntmps185
  go_wp2_with fail
  go_ret
  exact ⟨by rw [HV.out]; rfl,Below.refl _ _⟩
 have p0:(s.size:Int) < 1:=by omega
 have HV:Hid (nameB s = false):=qH (by unfold nameB; simp; omega)
 go_enter Tryz.func185,Tryz.ntmps185
 go_wp2_with fail
 go_ret
 exact ⟨by rw [HV.out]; rfl,Below.refl _ _⟩
def cntP (c:Nat):Bool:=decide (c &&& 192≠128)
def cntL (l:List Nat):Nat:=(l.filter cntP).length
def validB (s:ByteArray):Bool:=(pts (al s)).isSome
def countN (s:ByteArray):Int × Int:=if validB s then ((cntL (al s):Int),0) else (0,12)
theorem cntL_le (l:List Nat):cntL l≤l.length:=List.length_filter_le _ _
theorem cntL_snoc {s:ByteArray} {k c:Nat} (hk:k < s.size) (hc:s[k].toNat = c):cntL ((al s).take (k + 1)) = cntL ((al s).take k) + (if c &&& 192 = 128 then 0 else 1):=by
 unfold cntL
 rw [List.take_add_one,List.filter_append,List.length_append,bytesN_get s k hk,hc]
 by_cases h:c &&& 192 = 128
 ·rw [if_pos h]; simp [cntP,h]
 rw [if_neg h]; simp [cntP,h]
theorem count190 (s:ByteArray) (w:World) (hs:s.size≤1048576000):Calls Tryz.prog 190 #[.string s] w fun e w' => e = .returned (.tuple #[.int .i64 (countN s).1,.int .i64 (countN s).2])∧Below w.heap.size w w':=by
 obtain ⟨V,hV⟩:=gX (validB s)
 have C:=qH (valid_lib s w hs)
 unfold countN
 rw [<- hV]
 have C:Hid (Calls Tryz.prog 186 #[.string s] w fun e w' => e = .returned (.bool V)∧w = w'):=qH (by rw [hV]; exact C.out)
 clear hV
 go_enter Tryz.func190,Tryz.ntmps190
 go_wp2_with fail
 refine C.out.mono ?_
 rintro e w1 ⟨rfl,rfl⟩
 clear C
 cases V
 ·go_wp2_with fail
  go_ret2
  exact ⟨rfl,Below.refl _ _⟩
 go_wp2_with fail
 go_loop [10,2] (fun kv nv => ∃ k n:Nat,k≤s.size∧kv = .int .i64 k∧nv = .int .i64 n∧n≤s.size∧Hid (n = cntL ((al s).take k))) (fun kv _ => s.size - (intOf kv).toNat)
 case atStart => exact ⟨0,0,by omega,rfl,rfl,by omega,qH rfl⟩
 obtain ⟨k,n,hk,rfl,rfl,hn,HK⟩:=hrel
 by_cases hlt:k < s.size
 ·obtain ⟨c,hc⟩:∃ c,s[k].toNat = c:=⟨_,rfl⟩
  have hc2:c < 256:=by rw [<- hc]; exact s[k].toNat_lt
  have hlt':(k:Int) < s.size:=by omega
  have hand:=and192 c hc2
  have HS:=qH (cntL_snoc hlt hc)
  have HN:=qH (show n + 1≤s.size by
   have h1:=cntL_le ((al s).take k)
   rw [List.length_take,aE] at h1
   have:=HK.out
   omega)
  obtain ⟨x,hx⟩:=gX (c &&& 192)
  rw [<- hx] at hand HS
  clear hx
  by_cases h:x = 128
  ·have HS2:Hid (n = cntL ((al s).take (k + 1))):=qH (by rw [HS.out,if_pos h,HK.out]; rfl)
   have hand2:bits BinOp.and IntKind.u8 (c:Int) 192 = 128:=by rw [hand,h]; rfl
   clear hand HS h
   go_wp2_with fail
   exact ⟨⟨k + 1,n,by omega,by go_num,rfl,by omega,HS2⟩,by simp [intOf]; omega⟩
  have e1:((x:Int) == 128) = false:=by rw [beq_eq_false_iff_ne]; omega
  have HS2:Hid (n + 1 = cntL ((al s).take (k + 1))):=qH (by rw [HS.out,if_neg h,HK.out])
  have en:IntKind.i64.wrap ((n:Int) + 1) = (n:Int) + 1:=IntWalk.i64_in _ (by have:=HN.out; omega)
  clear HS h
  go_wp2_with fail
  exact ⟨⟨k + 1,n + 1,by omega,by go_num,by go_num,HN.out,HS2⟩,by simp [intOf]; omega⟩
 have hlt':¬ (k:Int) < s.size:=by omega
 have HF:=qH (show n = cntL (al s) by rw [HK.out,List.take_of_length_le (by rw [aE]; omega)])
 clear HK
 go_wp2_with fail
 go_ret2
 exact ⟨by rw [<- HF.out]; rfl,Below.refl _ _⟩
def prC (c:Nat):Bool:=decide (32≤c∧c≤126)
def stNameB (s:ByteArray):Bool:=decide (1≤s.size∧s.size≤40) && !decide ((al s)[0]? = some 32) && !decide ((al s)[s.size - 1]? = some 32) && (al s).all prC
theorem stName200 (s:ByteArray) (w:World):Calls Tryz.prog 200 #[.string s] w fun e w' => e = .returned (.bool (stNameB s))∧Below w.heap.size w w':=by
 by_cases h0:1≤s.size
 ·have p0:((s.size:Int) == 0) = false:=by rw [beq_eq_false_iff_ne]; omega
  by_cases h1:s.size≤40
  ·have p1:¬ (s.size:Int) > 40:=by omega
   obtain ⟨a,ha⟩:∃ c,s[0].toNat = c:=⟨_,rfl⟩
   have es:IntKind.i64.wrap ((s.size:Int) - 1) = ((s.size - 1:Nat):Int):=by rw [IntWalk.i64_in _ (by omega)]; omega
   have es2:wrap64 ((s.size:Int) - 1) = ((s.size - 1:Nat):Int):=by rw [IntWalk.wrap64_in _ (by omega)]; omega
   have es3:(s.size:Int) - 1 = ((s.size - 1:Nat):Int):=by omega
   obtain ⟨m,hm⟩:=gX (s.size - 1)
   have hml:m < s.size:=by omega
   obtain ⟨z,hz⟩:∃ c,s[m].toNat = c:=⟨_,rfl⟩
   have HA:=qH (show (al s)[0]? = some a by rw [bytesN_get s 0 (by omega),ha])
   have HZ:=qH (show (al s)[s.size - 1]? = some z by rw [<- hm,bytesN_get s m hml,hz])
   rw [<- hm] at es es2 es3
   have hml':(m:Int) < s.size:=by omega
   have HN:=qH (show stNameB s = (!decide (a = 32) && !decide (z = 32) && (al s).all prC) by unfold stNameB; rw [HA.out,HZ.out]; simp [h0,h1])
   obtain ⟨V,hV⟩:=gX (stNameB s)
   rw [<- hV] at HN ⊢
   clear hV hm HA HZ
   by_cases ea:a = 32
   ·have HF:=qH (show V = false by rw [HN.out]; simp [ea])
    subst ea
    clear HN
    go_enter Tryz.func200,Tryz.ntmps200
    go_wp2_with fail
    go_ret
    exact ⟨by rw [HF.out]; rfl,Below.refl _ _⟩
   have f1:((a:Int) == 32) = false:=by rw [beq_eq_false_iff_ne]; omega
   by_cases ez:z = 32
   ·have HF:=qH (show V = false by rw [HN.out]; simp [ez])
    subst ez
    clear HN
    go_enter Tryz.func200,Tryz.ntmps200
    go_wp2_with fail
    go_ret
    exact ⟨by rw [HF.out]; rfl,Below.refl _ _⟩
   have f2:((z:Int) == 32) = false:=by rw [beq_eq_false_iff_ne]; omega
   have HK0:=qH (show V = ((al s).drop 0).all prC by rw [HN.out]; simp [ea,ez])
   clear HN
   go_enter Tryz.func200,Tryz.ntmps200
   go_wp2_with fail
   go_loop [27] (fun kv => ∃ k:Nat,k≤s.size∧kv = .int .i64 k∧Hid (V = ((al s).drop k).all prC)) (fun kv => s.size - (intOf kv).toNat)
   case atStart => exact ⟨0,by omega,rfl,HK0⟩
   obtain ⟨k,hk,rfl,HK⟩:=hrel
   clear HK0
   by_cases hlt:k < s.size
   ·obtain ⟨c,hc⟩:∃ c,s[k].toNat = c:=⟨_,rfl⟩
    have hlt':(k:Int) < s.size:=by omega
    have HS:=qH (show V = (prC c && ((al s).drop (k + 1)).all prC) by rw [HK.out,bL s k hlt,hc]; rfl)
    clear HK
    by_cases q1:c < 32
    ·have q1':(c:Int) < 32:=by omega
     have HF:=qH (show V = false by rw [HS.out]; unfold prC; simp; omega)
     clear HS
     go_wp2_with fail
     go_ret
     exact ⟨by rw [HF.out]; rfl,Below.refl _ _⟩
    have q1':¬ (c:Int) < 32:=by omega
    by_cases q2:c > 126
    ·have q2':(c:Int) > 126:=by omega
     have HF:=qH (show V = false by rw [HS.out]; unfold prC; simp; omega)
     clear HS
     go_wp2_with fail
     go_ret
     exact ⟨by rw [HF.out]; rfl,Below.refl _ _⟩
    have q2':¬ (c:Int) > 126:=by omega
    have HF:=qH (show V = ((al s).drop (k + 1)).all prC by rw [HS.out,show prC c = true by unfold prC; simp; omega]; rfl)
    clear HS
    go_wp2_with fail
    exact ⟨⟨k + 1,by omega,by go_num,HF⟩,by simp [intOf]; omega⟩
   have hlt':¬ (k:Int) < s.size:=by omega
   have HF:=qH (show V = true by rw [HK.out,List.drop_eq_nil_of_le (by rw [aE]; omega)]; rfl)
   clear HK
   go_wp2_with fail
   go_ret
   exact ⟨by rw [HF.out]; rfl,Below.refl _ _⟩
  have p1:(s.size:Int) > 40:=by omega
  have HV:Hid (stNameB s = false):=qH (by unfold stNameB; simp; omega)
  go_enter Tryz.func200,Tryz.ntmps200
  go_wp2_with fail
  go_ret
  exact ⟨by rw [HV.out]; rfl,Below.refl _ _⟩
 have p0:(s.size:Int) = 0:=by omega
 have HV:Hid (stNameB s = false):=qH (by unfold stNameB; simp; omega)
 go_enter Tryz.func200,Tryz.ntmps200
 go_wp2_with fail
 go_ret
 exact ⟨by rw [HV.out]; rfl,Below.refl _ _⟩
end Go.Proofs.YtmhhcfceikcfbaaGreat
namespace Go.Proofs.YtmhhcfceikcfbaaGreat
open Go.RowKit
set_option maxRecDepth 100000
set_option maxHeartbeats 4000000
def eqS (a b:ByteArray):Bool:=decide (al a = al b)
theorem eqS_iff (a b:ByteArray):eqS a b = true↔a = b:=by
 unfold eqS
 rw [decide_eq_true_iff]
 exact ⟨bytesN_inj,fun h => by rw [h]⟩
theorem element202 (k:Int) (w:World):Calls Tryz.prog 202 #[.int .i64 k] w (RetI (if k = 1 then 2 else 1) w):=by
 obtain ⟨V,hV⟩:∃ V:Int,V = if k = 1 then 2 else 1:=⟨_,rfl⟩
 rw [<- hV]
 by_cases h:k = 1
 ·have HV:=qH (show V = 2 by rw [hV,if_pos h])
  subst h
  clear hV
  go_enter Tryz.func202,Tryz.ntmps202
  go_wp2_with fail
  go_ret
  exact ⟨by rw [HV.out]; rfl,Below.refl _ _⟩
 have b1:(k == 1) = false:=by rw [beq_eq_false_iff_ne]; exact h
 have HV:=qH (show V = 1 by rw [hV,if_neg h])
 clear h hV
 go_enter Tryz.func202,Tryz.ntmps202
 go_wp2_with fail
 go_ret
 exact ⟨by rw [HV.out]; rfl,Below.refl _ _⟩
theorem clo213 (x0 x1:Int) (x2:ByteArray) (x3 x4:Int) (pv:Value) (id:Int) (c:Nat) (w:World) (hc:w.cell? ⟨c,0,none⟩ = some (.int .i64 id)):Calls Tryz.prog 213 #[.agg #[.int .i64 x0,.int .i64 x1,.string x2,.int .i64 x3,.int .i64 x4,pv],.pointer (some ⟨c,0,none⟩)] w (RetB (decide (x0 = id)) w):=by
 obtain ⟨V,hV⟩:=gX (decide (x0 = id))
 rw [<- hV]
 have hcl:=World.block_lt_of_cell? _ _ hc
 have hc2:(w.alloc (.cells #[.int .i64 x0,.int .i64 x1,.string x2,.int .i64 x3,.int .i64 x4,pv] 107)).cell? ⟨c,0,none⟩ = some (.int .i64 id):=(World.cell?_of_block (Below.heap_alloc _ _ _ hcl)).trans hc
 by_cases h:x0 = id
 ·have HV:=qH (show V = true by rw [hV]; simpa using h)
  subst h
  clear hV
  go_enter Tryz.func213,Tryz.ntmps213
  go_wp2_with fail
  go_ret
  exact ⟨by rw [HV.out]; rfl,(Below.refl _ _).alloc (Nat.le_refl _) _⟩
 have b1:(x0 == id) = false:=by rw [beq_eq_false_iff_ne]; exact h
 have HV:=qH (show V = false by rw [hV]; simpa using h)
 clear h hV
 go_enter Tryz.func213,Tryz.ntmps213
 go_wp2_with fail
 go_ret
 exact ⟨by rw [HV.out]; rfl,(Below.refl _ _).alloc (Nat.le_refl _) _⟩
theorem clo212 (x0 x1:Int) (x2:ByteArray) (x3 x4:Int) (pv:Value) (kd:Int) (nm:ByteArray) (c d:Nat) (w:World) (hc:w.cell? ⟨c,0,none⟩ = some (.int .i64 kd)) (hd:w.cell? ⟨d,0,none⟩ = some (.string nm)):Calls Tryz.prog 212 #[.agg #[.int .i64 x0,.int .i64 x1,.string x2,.int .i64 x3,.int .i64 x4,pv],.pointer (some ⟨c,0,none⟩),.pointer (some ⟨d,0,none⟩)] w (RetB (decide (x1 = kd) && eqS x2 nm) w):=by
 obtain ⟨V,hV⟩:=gX ((decide (x1 = kd) && eqS x2 nm))
 rw [<- hV]
 have hc2:(w.alloc (.cells #[.int .i64 x0,.int .i64 x1,.string x2,.int .i64 x3,.int .i64 x4,pv] 107)).cell? ⟨c,0,none⟩ = some (.int .i64 kd):=(World.cell?_of_block (Below.heap_alloc _ _ _ (World.block_lt_of_cell? _ _ hc))).trans hc
 have hd2:(w.alloc (.cells #[.int .i64 x0,.int .i64 x1,.string x2,.int .i64 x3,.int .i64 x4,pv] 107)).cell? ⟨d,0,none⟩ = some (.string nm):=(World.cell?_of_block (Below.heap_alloc _ _ _ (World.block_lt_of_cell? _ _ hd))).trans hd
 by_cases h:x1 = kd
 ·subst h
  by_cases g:x2 = nm
  ·subst g
   have HV:=qH (show V = true by rw [hV,(eqS_iff x2 x2).2 rfl]; simp)
   clear hV
   go_enter Tryz.func212,Tryz.ntmps212
   go_wp2_with fail
   go_ret
   exact ⟨by rw [HV.out]; rfl,(Below.refl _ _).alloc (Nat.le_refl _) _⟩
  have s1:=beqS_ne g
  have s2:=beqS_ne' g
  have HV:=qH (show V = false by rw [hV,Bool.and_eq_false_iff]; right; rw [<- Bool.not_eq_true]; exact fun e => g ((eqS_iff _ _).1 e))
  clear g hV
  go_enter Tryz.func212,Tryz.ntmps212
  go_wp2_with fail
  go_ret
  exact ⟨by rw [HV.out]; rfl,(Below.refl _ _).alloc (Nat.le_refl _) _⟩
 have b1:(x1 == kd) = false:=by rw [beq_eq_false_iff_ne]; exact h
 have HV:=qH (show V = false by rw [hV,decide_eq_false h]; rfl)
 clear h hV
 go_enter Tryz.func212,Tryz.ntmps212
 go_wp2_with fail
 go_ret
 exact ⟨by rw [HV.out]; rfl,(Below.refl _ _).alloc (Nat.le_refl _) _⟩
def idxP {α:Type} (p:α→Bool) (l:List α):Int:=match l.findIdx? p with
 | some i => (i:Int)
 | none => -1
theorem idxP_hit {α:Type} {p:α→Bool} {l:List α} {i:Nat} {x:α} (hi:∀ y∈l.take i,p y = false) (hx:l[i]? = some x) (hp:p x = true):idxP p l = i:=by
 unfold idxP
 obtain ⟨h1,h2⟩:=List.getElem?_eq_some_iff.1 hx
 have:l.findIdx? p = some i:=by
  rw [List.findIdx?_eq_some_iff_getElem]
  refine ⟨h1,by rw [h2]; exact hp,fun j hj => ?_⟩
  have:=hi (l[j]'(by omega)) (List.mem_iff_getElem?.2 ⟨j,by rw [List.getElem?_take,if_pos hj]; exact List.getElem?_eq_getElem (by omega)⟩)
  rw [this]
  simp
 rw [this]
theorem idxP_none {α:Type} {p:α→Bool} {l:List α} (hi:∀ y∈l,p y = false):idxP p l = -1:=by
 unfold idxP
 rw [List.findIdx?_eq_none_iff.2 hi]
theorem take_all {α:Type} {p:α→Bool} {l:List α} {i:Nat} {x:α} (hi:∀ y∈l.take i,p y = false) (hx:l[i]? = some x) (hp:p x = false):∀ y∈l.take (i + 1),p y = false:=fun y hy => by
 rw [aQ hx] at hy
 rcases List.mem_append.1 hy with q | q
 ·exact hi y q
 ·rw [List.mem_singleton.1 q]
  exact hp
theorem cell_below {w w':World} {b:Nat} {v:Value} (h:w.cell? ⟨b,0,none⟩ = some v) (hb:Below w.heap.size w w'):w'.cell? ⟨b,0,none⟩ = some v :=
 (World.cell?_of_block (a:=⟨b,0,none⟩) (hb.block b (World.block_lt_of_cell? _ _ h))).trans h
theorem idx_clo213 (G:Nat→Prop) (w:World) (v:Value) (l:List Sty) (id:Int) (c:Nat) (hc:w.cell? ⟨c,0,none⟩ = some (.int .i64 id)) (hv:Slv styP 6 w G v l):Calls Tryz.prog 211 #[v,.func (.func 213) #[] #[.pointer (some ⟨c,0,none⟩)]] w (RetI (idxP (fun s:Sty => decide (s.1 = id)) l) w):=by
 obtain ⟨V,hV⟩:=gX (idxP (fun s:Sty => decide (s.1 = id)) l)
 rw [<- hV]
 have HVV:=qH hV
 clear hV
 obtain ⟨A,cp,rfl,_,hm1⟩:=hv.shape
 obtain ⟨n,hn⟩:=gX (l.length)
 have hnn:n≤9223372036854775807:=by unfold maxLen at hm1; omega
 have HV:=qH hv
 rw [<- hn]
 have HN:=qH hn
 have Hhc:=qH hc
 clear hv hm1 hn hc
 go_enter Tryz.func211,Tryz.ntmps211
 go_wp2_with fail
 go_loopw [8] (fun iv wr => ∃ i:Nat,iv = .int .i64 (i:Int)∧i≤n∧Hid (∀ y∈l.take i,(fun s:Sty => decide (s.1 = id)) y = false)∧Hid (Below w.heap.size w wr)) (fun iv _ => n - (intOf iv).toNat)
 case atStart => exact ⟨0,rfl,Nat.zero_le _,qH (fun y hy => by simp at hy),qH (Below.refl _ _)⟩
 obtain ⟨i,rfl,hin,HI,HB⟩:=hrel
 by_cases hlt:i < n
 ·have hlt':(i:Int) < (n:Int):=by omega
  obtain ⟨x,hx⟩:∃ x,l[i]? = some x:=⟨_,List.getElem?_eq_getElem (by rw [<- HN.out]; exact hlt)⟩
  obtain ⟨b1,o1,vs,rfl,_,hbw,_,hRx,hcs⟩:=HV.out.at i x hx
  have hE:EltS b1 (o1 + i * 6) vs wr:=EltS.below (w:=w) hcs hbw HB.out
  obtain ⟨x0,x1,x2,x3,x4,x5⟩:=x
  obtain ⟨pv,rfl,_,_⟩:=hRx
  have e0:=hE 0 _ rfl
  have e1:=hE 1 _ rfl
  have e2:=hE 2 _ rfl
  have e3:=hE 3 _ rfl
  have e4:=hE 4 _ rfl
  have e5:=hE 5 _ rfl
  simp only [Nat.add_zero] at e0
  have C:=qH (clo213 x0 x1 x2 x3 x4 pv id c wr (cell_below Hhc.out HB.out))
  have HX:=qH hx
  clear hcs hx hE
  go_wp2_with fail
  refine C.out.mono ?_
  rintro e w2 ⟨rfl,hb2⟩
  have HB2:=qH (HB.out.trans (hb2.mono HB.out.size))
  obtain ⟨r,hr⟩:=gX ((fun s:Sty => decide (s.1 = id)) (x0,x1,x2,x3,x4,x5))
  change r = _ at hr
  have HR:=qH hr
  simp only at hr
  rw [<- hr]
  clear hb2 C hr e0 e1 e2 e3 e4 e5 HB
  cases r
  ·have HI2:=qH (take_all HI.out HX.out HR.out.symm)
   clear HI HR
   go_wp2_with fail
   exact ⟨⟨i + 1,by go_num,by omega,HI2,HB2⟩,by simp [intOf]; omega⟩
  have HF:=qH (idxP_hit HI.out HX.out HR.out.symm)
  clear HI HR
  go_wp2_with fail
  go_ret
  exact ⟨by rw [HVV.out,HF.out]; rfl,HB2.out⟩
 have hlt':¬ (i:Int) < (n:Int):=by omega
 have HF:=qH (idxP_none (p:=fun s:Sty => decide (s.1 = id)) (l:=l) (by
  have h1:=HI.out
  rw [List.take_of_length_le (by rw [<- HN.out]; omega)] at h1
  exact h1))
 clear HI
 go_wp2_with fail
 go_ret
 exact ⟨by rw [HVV.out,HF.out]; rfl,HB.out⟩
theorem idx_clo212 (G:Nat→Prop) (w:World) (v:Value) (l:List Sty) (kd:Int) (nm:ByteArray) (c:Nat) (d:Nat) (hc:w.cell? ⟨c,0,none⟩ = some (.int .i64 kd)) (hd:w.cell? ⟨d,0,none⟩ = some (.string nm)) (hv:Slv styP 6 w G v l):Calls Tryz.prog 211 #[v,.func (.func 212) #[] #[.pointer (some ⟨c,0,none⟩),.pointer (some ⟨d,0,none⟩)]] w (RetI (idxP (fun s:Sty => decide (s.2.1 = kd) && eqS s.2.2.1 nm) l) w):=by
 obtain ⟨V,hV⟩:=gX (idxP (fun s:Sty => decide (s.2.1 = kd) && eqS s.2.2.1 nm) l)
 rw [<- hV]
 have HVV:=qH hV
 clear hV
 obtain ⟨A,cp,rfl,_,hm1⟩:=hv.shape
 obtain ⟨n,hn⟩:=gX (l.length)
 have hnn:n≤9223372036854775807:=by unfold maxLen at hm1; omega
 have HV:=qH hv
 rw [<- hn]
 have HN:=qH hn
 have Hhc:=qH hc
 have Hhd:=qH hd
 clear hv hm1 hn hc hd
 go_enter Tryz.func211,Tryz.ntmps211
 go_wp2_with fail
 go_loopw [8] (fun iv wr => ∃ i:Nat,iv = .int .i64 (i:Int)∧i≤n∧Hid (∀ y∈l.take i,(fun s:Sty => decide (s.2.1 = kd) && eqS s.2.2.1 nm) y = false)∧Hid (Below w.heap.size w wr)) (fun iv _ => n - (intOf iv).toNat)
 case atStart => exact ⟨0,rfl,Nat.zero_le _,qH (fun y hy => by simp at hy),qH (Below.refl _ _)⟩
 obtain ⟨i,rfl,hin,HI,HB⟩:=hrel
 by_cases hlt:i < n
 ·have hlt':(i:Int) < (n:Int):=by omega
  obtain ⟨x,hx⟩:∃ x,l[i]? = some x:=⟨_,List.getElem?_eq_getElem (by rw [<- HN.out]; exact hlt)⟩
  obtain ⟨b1,o1,vs,rfl,_,hbw,_,hRx,hcs⟩:=HV.out.at i x hx
  have hE:EltS b1 (o1 + i * 6) vs wr:=EltS.below (w:=w) hcs hbw HB.out
  obtain ⟨x0,x1,x2,x3,x4,x5⟩:=x
  obtain ⟨pv,rfl,_,_⟩:=hRx
  have e0:=hE 0 _ rfl
  have e1:=hE 1 _ rfl
  have e2:=hE 2 _ rfl
  have e3:=hE 3 _ rfl
  have e4:=hE 4 _ rfl
  have e5:=hE 5 _ rfl
  simp only [Nat.add_zero] at e0
  have C:=qH (clo212 x0 x1 x2 x3 x4 pv kd nm c d wr (cell_below Hhc.out HB.out) (cell_below Hhd.out HB.out))
  have HX:=qH hx
  clear hcs hx hE
  go_wp2_with fail
  refine C.out.mono ?_
  rintro e w2 ⟨rfl,hb2⟩
  have HB2:=qH (HB.out.trans (hb2.mono HB.out.size))
  obtain ⟨r,hr⟩:=gX ((fun s:Sty => decide (s.2.1 = kd) && eqS s.2.2.1 nm) (x0,x1,x2,x3,x4,x5))
  change r = _ at hr
  have HR:=qH hr
  simp only at hr
  rw [<- hr]
  clear hb2 C hr e0 e1 e2 e3 e4 e5 HB
  cases r
  ·have HI2:=qH (take_all HI.out HX.out HR.out.symm)
   clear HI HR
   go_wp2_with fail
   exact ⟨⟨i + 1,by go_num,by omega,HI2,HB2⟩,by simp [intOf]; omega⟩
  have HF:=qH (idxP_hit HI.out HX.out HR.out.symm)
  clear HI HR
  go_wp2_with fail
  go_ret
  exact ⟨by rw [HVV.out,HF.out]; rfl,HB2.out⟩
 have hlt':¬ (i:Int) < (n:Int):=by omega
 have HF:=qH (idxP_none (p:=fun s:Sty => decide (s.2.1 = kd) && eqS s.2.2.1 nm) (l:=l) (by
  have h1:=HI.out
  rw [List.take_of_length_le (by rw [<- HN.out]; omega)] at h1
  exact h1))
 clear HI
 go_wp2_with fail
 go_ret
 exact ⟨by rw [HVV.out,HF.out]; rfl,HB.out⟩
end Go.Proofs.YtmhhcfceikcfbaaGreat
