/- Walks: equality of the trees. -/
import Derived.BigQuiet
import Derived.Laws.StructEq
import Derived.Deep.MidRow
import Derived.Test.YtmhhcfceikcfbaaGreatDeR11
namespace Go.Proofs.YtmhhcfceikcfbaaGreat
open Go.RowKit
set_option maxRecDepth 100000
set_option maxHeartbeats 4000000
def EqC (w:World) (P:Prop) (e:Ending) (w':World):Prop:=∃ b:Bool,e = .returned (.bool b)∧(b = true↔P)∧Below w.heap.size w w'
theorem EqC.no {w w':World} {P:Prop} (h:¬ P) (hb:Below w.heap.size w w'):EqC w P (.returned (.bool false)) w':=⟨false,rfl,⟨fun q => by (cases q),fun q => absurd q h⟩,hb⟩
theorem EqC.yes {w w':World} {P:Prop} (h:P) (hb:Below w.heap.size w w'):EqC w P (.returned (.bool true)) w':=⟨true,rfl,⟨fun _ => h,fun _ => rfl⟩,hb⟩
def EqSl {α:Type} (F:FuncId) (R:Rp α) (sz:Nat):Prop:=∀ (G:Nat→Prop) (w:World) (v u:Value) (l m:List α),Slv R sz w G v l→Slv R sz w G u m→(∀ b,G b→b < w.heap.size)→Calls Tryz.prog F #[v,u] w (EqC w (l = m))
def EqEl {α:Type} (F:FuncId) (R:Rp α) (sz:Nat):Prop:=∀ (G:Nat→Prop) (w:World) (vs us:List Value) (x y:α),R w G vs x→R w G us y→vs.length = sz→us.length = sz→(∀ b,G b→b < w.heap.size)→Calls Tryz.prog F #[.agg vs.toArray,.agg us.toArray] w (EqC w (x = y))
theorem aQ {α:Type} {l:List α} {i:Nat} {x:α} (h:l[i]? = some x):l.take (i + 1) = l.take i++[x]:=by
 rw [List.take_add_one,h]
 rfl
theorem aJ {α:Type} {l m:List α} {i:Nat} {x y:α} (hx:l[i]? = some x) (hy:m[i]? = some y) (h:x≠y):l≠m:=fun e => by
 subst e
 rw [hx] at hy
 exact h (Option.some.inj hy)
theorem beqS_ne {a b:ByteArray} (h:a≠b):(a.toList == b.toList) = false:=by
 rw [beq_eq_false_iff_ne]
 intro e
 apply h
 rw [ByteArray.toList_eq,ByteArray.toList_eq] at e
 obtain ⟨⟨x⟩⟩:=a
 obtain ⟨⟨y⟩⟩:=b
 simp only at e
 rw [e]
theorem beqS_ne' {a b:ByteArray} (h:a≠b):(a == b) = false:=by
 rw [beq_toListBytes]
 exact beqS_ne h
theorem eq134:EqSl 134 twoP 2:=by
 intro G w v u l m hv hu hG
 obtain ⟨A,c,rfl,_,hm1⟩:=hv.shape
 obtain ⟨B,d,rfl,_,hm2⟩:=hu.shape
 obtain ⟨n,hn⟩:=gX (l.length)
 obtain ⟨k,hk⟩:=gX (m.length)
 have hnn:n≤9223372036854775807:=by unfold maxLen at hm1; omega
 have hkk:k≤9223372036854775807:=by unfold maxLen at hm2; omega
 have HV:=qH hv
 have HU:=qH hu
 rw [<- hn,<- hk]
 have HN:=qH hn
 have HK:=qH hk
 clear hv hu hm1 hm2 hn hk hG
 by_cases hnk:n = k
 ·subst hnk
  go_enter Tryz.func134,Tryz.ntmps134
  go_wp2_with fail
  go_loopw [13] (fun iv wr => ∃ i:Nat,iv = .int .i64 (i:Int)∧i≤n∧Hid (l.take i = m.take i)∧Hid (Below w.heap.size w wr)) (fun iv _ => n - (intOf iv).toNat)
  case atStart => exact ⟨0,rfl,Nat.zero_le _,qH rfl,qH (Below.refl _ _)⟩
  obtain ⟨i,rfl,hin,HT,HB⟩:=hrel
  by_cases hlt:i < n
  ·have hlt':(i:Int) < (n:Int):=by omega
   obtain ⟨x,hx⟩:∃ x,l[i]? = some x:=⟨_,List.getElem?_eq_getElem (by rw [<- HN.out]; exact hlt)⟩
   obtain ⟨y,hy⟩:∃ y,m[i]? = some y:=⟨_,List.getElem?_eq_getElem (by rw [<- HK.out]; exact hlt)⟩
   obtain ⟨b1,o1,vs,rfl,_,hbw,_,hRx,hcs⟩:=HV.out.at i x hx
   obtain ⟨b2,o2,us,rfl,_,hbw2,_,hRy,hds⟩:=HU.out.at i y hy
   have hE:EltS b1 (o1 + i * 2) vs wr:=EltS.below (w:=w) hcs hbw HB.out
   have hD:EltS b2 (o2 + i * 2) us wr:=EltS.below (w:=w) hds hbw2 HB.out
   obtain ⟨x0,x1⟩:=x
   obtain ⟨y0,y1⟩:=y
   obtain ⟨rfl,_⟩:=hRx
   obtain ⟨rfl,_⟩:=hRy
   have e0:=hE 0 _ rfl
   have d0:=hD 0 _ rfl
   have e1:=hE 1 _ rfl
   have d1:=hD 1 _ rfl
   simp only [Nat.add_zero] at e0 d0
   have HX:=qH hx
   have HY:=qH hy
   clear hcs hds hx hy hE hD
   by_cases q0:x0 = y0
   ·subst q0
    by_cases q1:x1 = y1
    ·subst q1
     go_upto_region 6 with fail
     go_quiet (fail)
     obtain ⟨w1,hw1⟩:=gX (wr.drewN nq)
     rw [<- hw1]
     have HB1:=qH (show Below w.heap.size w w1 by rw [hw1]; exact aq HB.out nq)
     clear hw1 e0 d0 e1 d1
     go_wp2_with fail
     exact ⟨⟨i + 1,by go_num,by omega,qH (by rw [aQ HX.out,aQ HY.out,HT.out]),HB1⟩,by simp [intOf]; omega⟩
    have r1:(x1 == y1) = false:=by rw [beq_eq_false_iff_ne]; exact q1
    go_upto_region 6 with fail
    go_quiet (fail)
    obtain ⟨w1,hw1⟩:=gX (wr.drewN nq)
    rw [<- hw1]
    have HB1:=qH (show Below w.heap.size w w1 by rw [hw1]; exact aq HB.out nq)
    clear hw1 e0 d0 e1 d1
    go_wp2_with fail
    go_ret
    exact EqC.no (aJ HX.out HY.out (by intro e; cases e; exact q1 rfl)) HB1.out
   have r0:(x0 == y0) = false:=by rw [beq_eq_false_iff_ne]; exact q0
   go_upto_region 6 with fail
   go_quiet (fail)
   obtain ⟨w1,hw1⟩:=gX (wr.drewN nq)
   rw [<- hw1]
   have HB1:=qH (show Below w.heap.size w w1 by rw [hw1]; exact aq HB.out nq)
   clear hw1 e0 d0 e1 d1
   go_wp2_with fail
   go_ret
   exact EqC.no (aJ HX.out HY.out (by intro e; cases e; exact q0 rfl)) HB1.out
  have hii:i = n:=by omega
  have hlt':¬ (i:Int) < (n:Int):=by omega
  go_wp2_with fail
  go_ret
  refine EqC.yes ?_ HB.out
  have h1:=HT.out
  rw [List.take_of_length_le (by rw [hii,HN.out]; exact Nat.le_refl _),List.take_of_length_le (by rw [hii,HK.out]; exact Nat.le_refl _)] at h1
  exact h1
 have hnk':((n:Int) == (k:Int)) = false:=by rw [beq_eq_false_iff_ne]; omega
 have hnk2:¬ ((n:Int) = (k:Int)):=by omega
 go_enter Tryz.func134,Tryz.ntmps134
 go_wp2_with fail
 go_ret
 refine EqC.no (fun e => hnk ?_) (Below.refl _ _)
 subst e
 rw [HN.out,HK.out]
theorem eq135:EqSl 135 twoP 2:=by
 intro G w v u l m hv hu hG
 obtain ⟨A,c,rfl,_,hm1⟩:=hv.shape
 obtain ⟨B,d,rfl,_,hm2⟩:=hu.shape
 obtain ⟨n,hn⟩:=gX (l.length)
 obtain ⟨k,hk⟩:=gX (m.length)
 have hnn:n≤9223372036854775807:=by unfold maxLen at hm1; omega
 have hkk:k≤9223372036854775807:=by unfold maxLen at hm2; omega
 have HV:=qH hv
 have HU:=qH hu
 rw [<- hn,<- hk]
 have HN:=qH hn
 have HK:=qH hk
 clear hv hu hm1 hm2 hn hk hG
 by_cases hnk:n = k
 ·subst hnk
  go_enter Tryz.func135,Tryz.ntmps135
  go_wp2_with fail
  go_loopw [13] (fun iv wr => ∃ i:Nat,iv = .int .i64 (i:Int)∧i≤n∧Hid (l.take i = m.take i)∧Hid (Below w.heap.size w wr)) (fun iv _ => n - (intOf iv).toNat)
  case atStart => exact ⟨0,rfl,Nat.zero_le _,qH rfl,qH (Below.refl _ _)⟩
  obtain ⟨i,rfl,hin,HT,HB⟩:=hrel
  by_cases hlt:i < n
  ·have hlt':(i:Int) < (n:Int):=by omega
   obtain ⟨x,hx⟩:∃ x,l[i]? = some x:=⟨_,List.getElem?_eq_getElem (by rw [<- HN.out]; exact hlt)⟩
   obtain ⟨y,hy⟩:∃ y,m[i]? = some y:=⟨_,List.getElem?_eq_getElem (by rw [<- HK.out]; exact hlt)⟩
   obtain ⟨b1,o1,vs,rfl,_,hbw,_,hRx,hcs⟩:=HV.out.at i x hx
   obtain ⟨b2,o2,us,rfl,_,hbw2,_,hRy,hds⟩:=HU.out.at i y hy
   have hE:EltS b1 (o1 + i * 2) vs wr:=EltS.below (w:=w) hcs hbw HB.out
   have hD:EltS b2 (o2 + i * 2) us wr:=EltS.below (w:=w) hds hbw2 HB.out
   obtain ⟨x0,x1⟩:=x
   obtain ⟨y0,y1⟩:=y
   obtain ⟨rfl,_⟩:=hRx
   obtain ⟨rfl,_⟩:=hRy
   have e0:=hE 0 _ rfl
   have d0:=hD 0 _ rfl
   have e1:=hE 1 _ rfl
   have d1:=hD 1 _ rfl
   simp only [Nat.add_zero] at e0 d0
   have HX:=qH hx
   have HY:=qH hy
   clear hcs hds hx hy hE hD
   by_cases q0:x0 = y0
   ·subst q0
    by_cases q1:x1 = y1
    ·subst q1
     go_upto_region 6 with fail
     go_quiet (fail)
     obtain ⟨w1,hw1⟩:=gX (wr.drewN nq)
     rw [<- hw1]
     have HB1:=qH (show Below w.heap.size w w1 by rw [hw1]; exact aq HB.out nq)
     clear hw1 e0 d0 e1 d1
     go_wp2_with fail
     exact ⟨⟨i + 1,by go_num,by omega,qH (by rw [aQ HX.out,aQ HY.out,HT.out]),HB1⟩,by simp [intOf]; omega⟩
    have r1:(x1 == y1) = false:=by rw [beq_eq_false_iff_ne]; exact q1
    go_upto_region 6 with fail
    go_quiet (fail)
    obtain ⟨w1,hw1⟩:=gX (wr.drewN nq)
    rw [<- hw1]
    have HB1:=qH (show Below w.heap.size w w1 by rw [hw1]; exact aq HB.out nq)
    clear hw1 e0 d0 e1 d1
    go_wp2_with fail
    go_ret
    exact EqC.no (aJ HX.out HY.out (by intro e; cases e; exact q1 rfl)) HB1.out
   have r0:(x0 == y0) = false:=by rw [beq_eq_false_iff_ne]; exact q0
   go_upto_region 6 with fail
   go_quiet (fail)
   obtain ⟨w1,hw1⟩:=gX (wr.drewN nq)
   rw [<- hw1]
   have HB1:=qH (show Below w.heap.size w w1 by rw [hw1]; exact aq HB.out nq)
   clear hw1 e0 d0 e1 d1
   go_wp2_with fail
   go_ret
   exact EqC.no (aJ HX.out HY.out (by intro e; cases e; exact q0 rfl)) HB1.out
  have hii:i = n:=by omega
  have hlt':¬ (i:Int) < (n:Int):=by omega
  go_wp2_with fail
  go_ret
  refine EqC.yes ?_ HB.out
  have h1:=HT.out
  rw [List.take_of_length_le (by rw [hii,HN.out]; exact Nat.le_refl _),List.take_of_length_le (by rw [hii,HK.out]; exact Nat.le_refl _)] at h1
  exact h1
 have hnk':((n:Int) == (k:Int)) = false:=by rw [beq_eq_false_iff_ne]; omega
 have hnk2:¬ ((n:Int) = (k:Int)):=by omega
 go_enter Tryz.func135,Tryz.ntmps135
 go_wp2_with fail
 go_ret
 refine EqC.no (fun e => hnk ?_) (Below.refl _ _)
 subst e
 rw [HN.out,HK.out]
theorem eq136:EqSl 136 layP 4:=by
 intro G w v u l m hv hu hG
 obtain ⟨A,c,rfl,_,hm1⟩:=hv.shape
 obtain ⟨B,d,rfl,_,hm2⟩:=hu.shape
 obtain ⟨n,hn⟩:=gX (l.length)
 obtain ⟨k,hk⟩:=gX (m.length)
 have hnn:n≤9223372036854775807:=by unfold maxLen at hm1; omega
 have hkk:k≤9223372036854775807:=by unfold maxLen at hm2; omega
 have HV:=qH hv
 have HU:=qH hu
 rw [<- hn,<- hk]
 have HN:=qH hn
 have HK:=qH hk
 clear hv hu hm1 hm2 hn hk hG
 by_cases hnk:n = k
 ·subst hnk
  go_enter Tryz.func136,Tryz.ntmps136
  go_wp2_with fail
  go_loopw [13] (fun iv wr => ∃ i:Nat,iv = .int .i64 (i:Int)∧i≤n∧Hid (l.take i = m.take i)∧Hid (Below w.heap.size w wr)) (fun iv _ => n - (intOf iv).toNat)
  case atStart => exact ⟨0,rfl,Nat.zero_le _,qH rfl,qH (Below.refl _ _)⟩
  obtain ⟨i,rfl,hin,HT,HB⟩:=hrel
  by_cases hlt:i < n
  ·have hlt':(i:Int) < (n:Int):=by omega
   obtain ⟨x,hx⟩:∃ x,l[i]? = some x:=⟨_,List.getElem?_eq_getElem (by rw [<- HN.out]; exact hlt)⟩
   obtain ⟨y,hy⟩:∃ y,m[i]? = some y:=⟨_,List.getElem?_eq_getElem (by rw [<- HK.out]; exact hlt)⟩
   obtain ⟨b1,o1,vs,rfl,_,hbw,_,hRx,hcs⟩:=HV.out.at i x hx
   obtain ⟨b2,o2,us,rfl,_,hbw2,_,hRy,hds⟩:=HU.out.at i y hy
   have hE:EltS b1 (o1 + i * 4) vs wr:=EltS.below (w:=w) hcs hbw HB.out
   have hD:EltS b2 (o2 + i * 4) us wr:=EltS.below (w:=w) hds hbw2 HB.out
   obtain ⟨x0,x1,x2,x3⟩:=x
   obtain ⟨y0,y1,y2,y3⟩:=y
   obtain ⟨rfl,_⟩:=hRx
   obtain ⟨rfl,_⟩:=hRy
   have e0:=hE 0 _ rfl
   have d0:=hD 0 _ rfl
   have e1:=hE 1 _ rfl
   have d1:=hD 1 _ rfl
   have e2:=hE 2 _ rfl
   have d2:=hD 2 _ rfl
   have e3:=hE 3 _ rfl
   have d3:=hD 3 _ rfl
   simp only [Nat.add_zero] at e0 d0
   have HX:=qH hx
   have HY:=qH hy
   clear hcs hds hx hy hE hD
   by_cases q0:x0 = y0
   ·subst q0
    by_cases q1:x1 = y1
    ·subst q1
     by_cases q2:x2 = y2
     ·subst q2
      by_cases q3:x3 = y3
      ·subst q3
       go_upto_region 6 with fail
       go_quiet (fail)
       obtain ⟨w1,hw1⟩:=gX (wr.drewN nq)
       rw [<- hw1]
       have HB1:=qH (show Below w.heap.size w w1 by rw [hw1]; exact aq HB.out nq)
       clear hw1 e0 d0 e1 d1 e2 d2 e3 d3
       go_wp2_with fail
       exact ⟨⟨i + 1,by go_num,by omega,qH (by rw [aQ HX.out,aQ HY.out,HT.out]),HB1⟩,by simp [intOf]; omega⟩
      have r3:(x3 == y3) = false:=by rw [beq_eq_false_iff_ne]; exact q3
      go_upto_region 6 with fail
      go_quiet (fail)
      obtain ⟨w1,hw1⟩:=gX (wr.drewN nq)
      rw [<- hw1]
      have HB1:=qH (show Below w.heap.size w w1 by rw [hw1]; exact aq HB.out nq)
      clear hw1 e0 d0 e1 d1 e2 d2 e3 d3
      go_wp2_with fail
      go_ret
      exact EqC.no (aJ HX.out HY.out (by intro e; cases e; exact q3 rfl)) HB1.out
     have r2:(x2 == y2) = false:=by rw [beq_eq_false_iff_ne]; exact q2
     go_upto_region 6 with fail
     go_quiet (fail)
     obtain ⟨w1,hw1⟩:=gX (wr.drewN nq)
     rw [<- hw1]
     have HB1:=qH (show Below w.heap.size w w1 by rw [hw1]; exact aq HB.out nq)
     clear hw1 e0 d0 e1 d1 e2 d2 e3 d3
     go_wp2_with fail
     go_ret
     exact EqC.no (aJ HX.out HY.out (by intro e; cases e; exact q2 rfl)) HB1.out
    have r1:(x1 == y1) = false:=by rw [beq_eq_false_iff_ne]; exact q1
    go_upto_region 6 with fail
    go_quiet (fail)
    obtain ⟨w1,hw1⟩:=gX (wr.drewN nq)
    rw [<- hw1]
    have HB1:=qH (show Below w.heap.size w w1 by rw [hw1]; exact aq HB.out nq)
    clear hw1 e0 d0 e1 d1 e2 d2 e3 d3
    go_wp2_with fail
    go_ret
    exact EqC.no (aJ HX.out HY.out (by intro e; cases e; exact q1 rfl)) HB1.out
   have r0:(x0 == y0) = false:=by rw [beq_eq_false_iff_ne]; exact q0
   go_upto_region 6 with fail
   go_quiet (fail)
   obtain ⟨w1,hw1⟩:=gX (wr.drewN nq)
   rw [<- hw1]
   have HB1:=qH (show Below w.heap.size w w1 by rw [hw1]; exact aq HB.out nq)
   clear hw1 e0 d0 e1 d1 e2 d2 e3 d3
   go_wp2_with fail
   go_ret
   exact EqC.no (aJ HX.out HY.out (by intro e; cases e; exact q0 rfl)) HB1.out
  have hii:i = n:=by omega
  have hlt':¬ (i:Int) < (n:Int):=by omega
  go_wp2_with fail
  go_ret
  refine EqC.yes ?_ HB.out
  have h1:=HT.out
  rw [List.take_of_length_le (by rw [hii,HN.out]; exact Nat.le_refl _),List.take_of_length_le (by rw [hii,HK.out]; exact Nat.le_refl _)] at h1
  exact h1
 have hnk':((n:Int) == (k:Int)) = false:=by rw [beq_eq_false_iff_ne]; omega
 have hnk2:¬ ((n:Int) = (k:Int)):=by omega
 go_enter Tryz.func136,Tryz.ntmps136
 go_wp2_with fail
 go_ret
 refine EqC.no (fun e => hnk ?_) (Below.refl _ _)
 subst e
 rw [HN.out,HK.out]
theorem bt {P:Program} {Q:Exit→Act→World→Prop} {S:World→Prop} {o:Oper} {r:List (Bool × Oper)} {a:Act} {w:World} (ty:TypeId) (x:Operand) (ho:o.op = .load ty x) (b off:Nat) (cs:List Value) (d:TypeDesc)
  (hx:a.eval x = .pointer (some ⟨b,off,none⟩)) (hE:EltS b off cs w) (hu:P.underlying ty = some d) (hd:d.isRow = true) (hi:(P.info? ty).map (·.size) = some cs.length)
  (hS:S w) (h:wpSq P Q S r (a.put o.dst (.agg cs.toArray)) w):wpSq P Q S ((false,o)::r) a w:=by
 refine au (.agg cs.toArray) w ?_ hS h
 unfold execOp
 simp only [ho,hx,Instr.loadAt,Instr.sureAddr,Sem.run_bind,Sem.run_pure,Result.andThen_ok,run_loadVar_mid w b off ty cs d hE hu hd hi]
theorem bG {B:Nat} {b c:World} (hB:B≤b.heap.size) (o:Obj) (hg:(b.alloc o).grownBy c (some b.heap.size)):Below B b c :=
 ⟨hg.os.trans rfl,hg.tape.trans rfl,hg.output.trans rfl,by have:=hg.size; simp at this; omega,fun i hi => by
  have h1:=hg.block i (by simp; omega) (fun e => by injection e; omega)
  rw [h1]
  exact Below.heap_alloc _ _ _ (by omega)⟩
theorem esz53:(Tryz.prog.info? 53).map (·.size) = some 11:=by kernel_rfl
theorem esz156:(Tryz.prog.info? 156).map (·.size) = some 6:=by kernel_rfl
theorem esz174:(Tryz.prog.info? 174).map (·.size) = some 7:=by kernel_rfl
theorem esz107:(Tryz.prog.info? 107).map (·.size) = some 6:=by kernel_rfl
theorem esz110:(Tryz.prog.info? 110).map (·.size) = some 2:=by kernel_rfl
theorem eq59:EqEl 59 hdP 5:=by
 intro G w vs us x y hx hy _ _ hG
 obtain ⟨a0,a3,a4,rfl,_,_,f0,f3,f4⟩:=hx
 obtain ⟨c0,c3,c4,rfl,_,_,g0,g3,g4⟩:=hy
 obtain ⟨l0,x1,x2,l3,l4⟩:=x
 obtain ⟨m0,y1,y2,m3,m4⟩:=y
 have F0:=qH f0
 have F3:=qH f3
 have F4:=qH f4
 have G0:=qH g0
 have G3:=qH g3
 have G4:=qH g4
 have HG:=qH hG
 clear f0 f3 f4 g0 g3 g4 hG
 obtain ⟨N,hN⟩:=gX (w.heap.size)
 obtain ⟨W,hW⟩:=gX (((w.alloc (.cells #[a0,.int .i64 x1,.int .i64 x2,a3,a4] 40)).alloc (.cells #[c0,.int .i64 y1,.int .i64 y2,c3,c4] 40)))
 have hb1:W.heap[N]? = some (.cells #[a0,.int .i64 x1,.int .i64 x2,a3,a4] 40 (0,0)):=by rw [hW,hN]; exact (Below.heap_alloc _ _ _ (by simp)).trans (heap_alloc_new _ _)
 have hb2:W.heap[N + 1]? = some (.cells #[c0,.int .i64 y1,.int .i64 y2,c3,c4] 40 (0,0)):=by rw [hW,hN]; exact ah _ _ (by simp)
 have hB:Below w.heap.size w W:=by rw [hW]; exact ((Below.refl _ _).alloc (Nat.le_refl _) _).alloc (by simp) _
 have hn1:N < W.heap.size:=ae hb1
 have hn2:N + 1 < W.heap.size:=ae hb2
 have HW:=qH hW
 have HN:=qH hN
 have HB0:=qH hB
 have K0:=qH hb1
 have J0:=qH hb2
 clear hW hN hB hb1 hb2
 go_enter Tryz.func59,Tryz.ntmps59
 go_upto_region 1 with fail
 rw [<- HW.out,<- HN.out]
 clear HW
 have e0:=aa K0.out 0
 have d0:=aa J0.out 0
 have C:=qH (eq134 G W _ _ _ _ (F0.out.below am HG.out HB0.out) (G0.out.below am HG.out HB0.out) (fun b h => Nat.lt_of_lt_of_le (HG.out b h) HB0.out.size))
 go_wp2_with fail
 refine C.out.mono ?_
 rintro e w1 ⟨r0,rfl,hr,hb⟩
 have HR0:=qH hr
 have HB1:=qH (HB0.out.trans (hb.mono HB0.out.size))
 have K1:=qH ((hb.block _ hn1).trans K0.out)
 have J1:=qH ((hb.block _ hn2).trans J0.out)
 replace hn1:=Nat.lt_of_lt_of_le hn1 hb.size
 replace hn2:=Nat.lt_of_lt_of_le hn2 hb.size
 clear C hb hr HB0 K0 J0 e0 d0
 cases r0
 ·go_wp2_with fail
  go_ret
  exact EqC.no (fun e => by cases e; have:=HR0.out.2 rfl; cases this) HB1.out
 have e1:=aa K1.out 1
 have d1:=aa J1.out 1
 have e2:=aa K1.out 2
 have d2:=aa J1.out 2
 have e3:=aa K1.out 3
 have d3:=aa J1.out 3
 by_cases q1:x1 = y1
 ·subst q1
  by_cases q2:x2 = y2
  ·subst q2
   have C:=qH (eq135 G w1 _ _ _ _ (F3.out.below am HG.out HB1.out) (G3.out.below am HG.out HB1.out) (fun b h => Nat.lt_of_lt_of_le (HG.out b h) HB1.out.size))
   go_wp2_with fail
   refine C.out.mono ?_
   rintro e w2 ⟨r3,rfl,hr,hb⟩
   have HR3:=qH hr
   have HB2:=qH (HB1.out.trans (hb.mono HB1.out.size))
   have K2:=qH ((hb.block _ hn1).trans K1.out)
   have J2:=qH ((hb.block _ hn2).trans J1.out)
   replace hn1:=Nat.lt_of_lt_of_le hn1 hb.size
   replace hn2:=Nat.lt_of_lt_of_le hn2 hb.size
   clear C hb hr HB1 K1 J1 e1 d1 e2 d2 e3 d3
   cases r3
   ·go_wp2_with fail
    go_ret
    exact EqC.no (fun e => by cases e; have:=HR3.out.2 rfl; cases this) HB2.out
   have e4:=aa K2.out 4
   have d4:=aa J2.out 4
   have C:=qH (eq136 G w2 _ _ _ _ (F4.out.below bD HG.out HB2.out) (G4.out.below bD HG.out HB2.out) (fun b h => Nat.lt_of_lt_of_le (HG.out b h) HB2.out.size))
   go_wp2_with fail
   refine C.out.mono ?_
   rintro e w3 ⟨r4,rfl,hr,hb⟩
   have HR4:=qH hr
   have HB3:=qH (HB2.out.trans (hb.mono HB2.out.size))
   have K3:=qH ((hb.block _ hn1).trans K2.out)
   have J3:=qH ((hb.block _ hn2).trans J2.out)
   replace hn1:=Nat.lt_of_lt_of_le hn1 hb.size
   replace hn2:=Nat.lt_of_lt_of_le hn2 hb.size
   clear C hb hr HB2 K2 J2 e4 d4
   cases r4
   ·go_wp2_with fail
    go_ret
    exact EqC.no (fun e => by cases e; have:=HR4.out.2 rfl; cases this) HB3.out
   go_wp2_with fail
   go_ret
   exact EqC.yes (by rw [HR0.out.1 (by trivial),HR3.out.1 (by trivial),HR4.out.1 (by trivial)]) HB3.out
  have r2:(x2 == y2) = false:=by rw [beq_eq_false_iff_ne]; exact q2
  go_wp2_with fail
  go_ret
  exact EqC.no (fun e => by cases e; first | done | exact q2 rfl) HB1.out
 have r1:(x1 == y1) = false:=by rw [beq_eq_false_iff_ne]; exact q1
 go_wp2_with fail
 go_ret
 exact EqC.no (fun e => by cases e; first | done | exact q1 rfl) HB1.out
theorem eqf196 {α:Type} (R:Rp α) (hR:Stb R) (hone:One R) (HE:EqEl 197 R 7):∀ (G:Nat→Prop) (w:World) (v u:Value) (l m:List α),Slv R 7 w G v l→Slv R 7 w G u m→(∀ b,G b→b < w.heap.size)→Calls Tryz.prog 196 #[v,u,.func (.func 197) #[] #[]] w (EqC w (l = m)):=by
 intro G w v u l m hv hu hG
 obtain ⟨A,c,rfl,_,hm1⟩:=hv.shape
 obtain ⟨B,d,rfl,_,hm2⟩:=hu.shape
 obtain ⟨n,hn⟩:=gX (l.length)
 obtain ⟨k,hk⟩:=gX (m.length)
 have hnn:n≤9223372036854775807:=by unfold maxLen at hm1; omega
 have hkk:k≤9223372036854775807:=by unfold maxLen at hm2; omega
 have HV:=qH hv
 have HU:=qH hu
 have HG:=qH hG
 rw [<- hn,<- hk]
 have HN:=qH hn
 have HK:=qH hk
 clear hv hu hm1 hm2 hn hk hG
 by_cases hnk:n = k
 ·subst hnk
  go_enter Tryz.func196,Tryz.ntmps196
  go_wp2_with fail
  go_loopw [17] (fun iv wr => ∃ i:Nat,iv = .int .i64 (i:Int)∧i≤n∧Hid (l.take i = m.take i)∧Hid (Below w.heap.size w wr)) (fun iv _ => n - (intOf iv).toNat)
  case atStart => exact ⟨0,rfl,Nat.zero_le _,qH rfl,qH (Below.refl _ _)⟩
  obtain ⟨i,rfl,hin,HT,HB⟩:=hrel
  by_cases hlt:i < n
  ·have hlt':(i:Int) < (n:Int):=by omega
   obtain ⟨x,hx⟩:∃ x,l[i]? = some x:=⟨_,List.getElem?_eq_getElem (by rw [<- HN.out]; exact hlt)⟩
   obtain ⟨y,hy⟩:∃ y,m[i]? = some y:=⟨_,List.getElem?_eq_getElem (by rw [<- HK.out]; exact hlt)⟩
   obtain ⟨b1,o1,vs,rfl,_,hbw,hvl,hRx,hcs⟩:=HV.out.at i x hx
   obtain ⟨b2,o2,us,rfl,_,hbw2,hul,hRy,hds⟩:=HU.out.at i y hy
   have hE:EltS b1 (o1 + i * 7) vs wr:=EltS.below (w:=w) hcs hbw HB.out
   have hD:EltS b2 (o2 + i * 7) us wr:=EltS.below (w:=w) hds hbw2 HB.out
   have ho1:=hone _ _ _ _ hRx
   have ho2:=hone _ _ _ _ hRy
   have HX:=qH hx
   have HY:=qH hy
   have HRX:=qH hRx
   have HRY:=qH hRy
   clear hcs hds hx hy hRx hRy
   go_upto_region 5 with fail
   refine ac (by rfl) ?_
   simp only [List.map]
   refine sq1i (i:Int) ?_
   refine sq1p b1 (o1 + i * 7) ?_
   refine bt 174 _ rfl b1 (o1 + i * 7) vs _ rfl hE Tryz.underlying174 rfl (by rw [hvl]; exact esz174) trivial ?_
   simp only [Act.put,PutA,PutZ,PutS]
   refine au (.pointer (some ⟨wr.heap.size,0,none⟩)) (wr.alloc (.cells #[.int .i64 0,.slice none 0 0,.int .i64 0,.int .i64 0,.slice none 0 0,.slice none 0 0,.slice none 0 0] 174)) (by go_simp) trivial ?_
   simp only [Act.put,PutA,PutZ,PutS]
   refine sq1i (i:Int) ?_
   refine as_ 174 _ _ rfl rfl wr.heap.size 174 _ vs rfl rfl (heap_alloc_new wr _) (by rw [hvl]; exact esz174) ho1 (by rw [hvl]; rfl) ?_
   intro w1 hb1 hg1
   have hq1:=bG (Nat.le_refl _) _ hg1
   have hD1:EltS b2 (o2 + i * 7) us w1:=EltS.below hD (Nat.lt_of_lt_of_le hbw2 HB.out.size) hq1
   have HB1:=qH (HB.out.trans (hq1.mono HB.out.size))
   refine ⟨trivial,?_⟩
   refine ad ?_
   obtain ⟨g1,hg1'⟩:=gX (wr.heap.size)
   have hgw:wr.heap.size < w1.heap.size:=ae hb1
   rw [<- hg1'] at hb1 hgw ⊢
   have HGW:=qH hg1'
   clear hE hD hg1 hq1 hg1' ho1
   go_upto_region 6 with fail
   refine ac (by rfl) ?_
   simp only [List.map]
   refine sq1 (.slice (some ⟨b2,o2,none⟩) n d) ?_
   refine sq1i (i:Int) ?_
   refine sq1p b2 (o2 + i * 7) ?_
   refine bt 174 _ rfl b2 (o2 + i * 7) us _ rfl hD1 Tryz.underlying174 rfl (by rw [hul]; exact esz174) trivial ?_
   simp only [Act.put,PutA,PutZ,PutS]
   refine au (.pointer (some ⟨w1.heap.size,0,none⟩)) (w1.alloc (.cells #[.int .i64 0,.slice none 0 0,.int .i64 0,.int .i64 0,.slice none 0 0,.slice none 0 0,.slice none 0 0] 174)) (by go_simp) trivial ?_
   simp only [Act.put,PutA,PutZ,PutS]
   refine as_ 174 _ _ rfl rfl w1.heap.size 174 _ us rfl rfl (heap_alloc_new w1 _) (by rw [hul]; exact esz174) ho2 (by rw [hul]; rfl) ?_
   intro w2 hb2 hg2
   have hq2:=bG (Nat.le_refl _) _ hg2
   have hb1':=(hq2.block _ hgw).trans hb1
   have HB2:=qH (HB1.out.trans (hq2.mono HB1.out.size))
   refine ⟨trivial,?_⟩
   refine ad ?_
   obtain ⟨g2,hg2'⟩:=gX (w1.heap.size)
   rw [<- hg2'] at hb2 ⊢
   clear hD1 hg2 hq2 hg2' ho2 hb1 hgw
   have C:=qH (HE G w2 vs us x y (Rp.below hR HRX.out HG.out HB2.out) (Rp.below hR HRY.out HG.out HB2.out) hvl hul (fun b h => Nat.lt_of_lt_of_le (HG.out b h) HB2.out.size))
   clear HRX HRY HB1 HGW
   go_upto_region 7 with fail
   refine ac (by rfl) ?_
   simp only [List.map]
   refine sq1 (.func (.func 197) #[] #[]) ?_
   refine ar 174 _ rfl g1 174 vs.toArray _ rfl hb1' Tryz.underlying174 rfl (by rw [List.size_toArray,hvl]; exact esz174) trivial ?_
   simp only [Act.put,PutA,PutZ,PutS]
   refine ar 174 _ rfl g2 174 us.toArray _ rfl hb2 Tryz.underlying174 rfl (by rw [List.size_toArray,hul]; exact esz174) trivial ?_
   simp only [Act.put,PutA,PutZ,PutS]
   refine af 197 #[.agg vs.toArray,.agg us.toArray] (by go_simp) ?_
   refine Calls.mono C.out ?_
   rintro e w3 ⟨r,rfl,hr,hb3⟩
   refine ⟨_,rfl,trivial,?_⟩
   simp only [Act.put,PutA,PutZ,PutS]
   refine sq1 (.bool (!r)) ?_
   refine ad ?_
   have HB3:=qH (HB2.out.trans (hb3.mono HB2.out.size))
   have HR:=qH hr
   clear hb1' hb2 C hb3 HB2 HB hr
   cases r
   ·go_wp2_with fail
    go_ret
    exact EqC.no (aJ HX.out HY.out (fun e => by have:=HR.out.2 e; cases this)) HB3.out
   go_wp2_with fail
   exact ⟨⟨i + 1,by go_num,by omega,qH (by rw [aQ HX.out,aQ HY.out,HT.out,HR.out.1 rfl]),HB3⟩,by simp [intOf]; omega⟩
  have hii:i = n:=by omega
  have hlt':¬ (i:Int) < (n:Int):=by omega
  go_wp2_with fail
  go_ret
  refine EqC.yes ?_ HB.out
  have h1:=HT.out
  rw [List.take_of_length_le (by rw [hii,HN.out]; exact Nat.le_refl _),List.take_of_length_le (by rw [hii,HK.out]; exact Nat.le_refl _)] at h1
  exact h1
 have hnk':((n:Int) == (k:Int)) = false:=by rw [beq_eq_false_iff_ne]; omega
 have hnk2:¬ ((n:Int) = (k:Int)):=by omega
 go_enter Tryz.func196,Tryz.ntmps196
 go_wp2_with fail
 go_ret
 refine EqC.no (fun e => hnk ?_) (Below.refl _ _)
 subst e
 rw [HN.out,HK.out]
theorem eq197 {α:Type} (R:Rp α) (hR:Stb R) (HI:EqSl 26 R 11):EqEl 197 (ceP R) 7:=by
 intro G w vs us x y hx hy _ _ hG
 obtain ⟨h0,h1,h2,h3,h4,a6,rfl,_,f1,f6⟩:=hx
 obtain ⟨j0,j1,j2,j3,j4,c6,rfl,_,g1,g6⟩:=hy
 obtain ⟨x0,x1,x2⟩:=x
 obtain ⟨y0,y1,y2⟩:=y
 have F1:=qH f1
 have F6:=qH f6
 have G1:=qH g1
 have G6:=qH g6
 have HG:=qH hG
 clear f1 f6 g1 g6 hG
 obtain ⟨N,hN⟩:=gX (w.heap.size)
 obtain ⟨W,hW⟩:=gX (((w.alloc (.cells #[.int .i64 x0,h0,h1,h2,h3,h4,a6] 174)).alloc (.cells #[.int .i64 y0,j0,j1,j2,j3,j4,c6] 174)))
 have hb1:W.heap[N]? = some (.cells #[.int .i64 x0,h0,h1,h2,h3,h4,a6] 174 (0,0)):=by rw [hW,hN]; exact (Below.heap_alloc _ _ _ (by simp)).trans (heap_alloc_new _ _)
 have hb2:W.heap[N + 1]? = some (.cells #[.int .i64 y0,j0,j1,j2,j3,j4,c6] 174 (0,0)):=by rw [hW,hN]; exact ah _ _ (by simp)
 have hB:Below w.heap.size w W:=by rw [hW]; exact ((Below.refl _ _).alloc (Nat.le_refl _) _).alloc (by simp) _
 have hn1:N < W.heap.size:=ae hb1
 have hn2:N + 1 < W.heap.size:=ae hb2
 have HW:=qH hW
 have HN:=qH hN
 have HB0:=qH hB
 have K0:=qH hb1
 have J0:=qH hb2
 clear hW hN hB hb1 hb2
 go_enter Tryz.func197,Tryz.ntmps197
 go_upto_region 1 with fail
 rw [<- HW.out,<- HN.out]
 clear HW
 have e0:=aa K0.out 0
 have d0:=aa J0.out 0
 have e1:=aa K0.out 1
 have d1:=aa J0.out 1
 have e2:=aa K0.out 2
 have d2:=aa J0.out 2
 have e3:=aa K0.out 3
 have d3:=aa J0.out 3
 have e4:=aa K0.out 4
 have d4:=aa J0.out 4
 have e5:=aa K0.out 5
 have d5:=aa J0.out 5
 by_cases q0:x0 = y0
 ·subst q0
  have C:=qH (eq59 G W _ _ _ _ (Rp.below ay F1.out HG.out HB0.out) (Rp.below ay G1.out HG.out HB0.out) rfl rfl (fun b h => Nat.lt_of_lt_of_le (HG.out b h) HB0.out.size))
  go_wp2_with fail
  refine C.out.mono ?_
  rintro e w1 ⟨r1,rfl,hr,hb⟩
  have HR1:=qH hr
  have HB1:=qH (HB0.out.trans (hb.mono HB0.out.size))
  have K1:=qH ((hb.block _ hn1).trans K0.out)
  have J1:=qH ((hb.block _ hn2).trans J0.out)
  replace hn1:=Nat.lt_of_lt_of_le hn1 hb.size
  replace hn2:=Nat.lt_of_lt_of_le hn2 hb.size
  clear C hb hr HB0 K0 J0 e0 d0 e1 d1 e2 d2 e3 d3 e4 d4 e5 d5
  cases r1
  ·go_wp2_with fail
   go_ret
   exact EqC.no (fun e => by cases e; have:=HR1.out.2 rfl; cases this) HB1.out
  have e6:=aa K1.out 6
  have d6:=aa J1.out 6
  have C:=qH (HI G w1 _ _ _ _ (F6.out.below hR HG.out HB1.out) (G6.out.below hR HG.out HB1.out) (fun b h => Nat.lt_of_lt_of_le (HG.out b h) HB1.out.size))
  go_wp2_with fail
  refine C.out.mono ?_
  rintro e w2 ⟨r2,rfl,hr,hb⟩
  have HR2:=qH hr
  have HB2:=qH (HB1.out.trans (hb.mono HB1.out.size))
  have K2:=qH ((hb.block _ hn1).trans K1.out)
  have J2:=qH ((hb.block _ hn2).trans J1.out)
  replace hn1:=Nat.lt_of_lt_of_le hn1 hb.size
  replace hn2:=Nat.lt_of_lt_of_le hn2 hb.size
  clear C hb hr HB1 K1 J1 e6 d6
  cases r2
  ·go_wp2_with fail
   go_ret
   exact EqC.no (fun e => by cases e; have:=HR2.out.2 rfl; cases this) HB2.out
  go_wp2_with fail
  go_ret
  exact EqC.yes (by rw [HR1.out.1 (by trivial),HR2.out.1 (by trivial)]) HB2.out
 have r0:(x0 == y0) = false:=by rw [beq_eq_false_iff_ne]; exact q0
 go_wp2_with fail
 go_ret
 exact EqC.no (fun e => by cases e; first | done | exact q0 rfl) HB0.out
theorem eqf144 {α:Type} (R:Rp α) (hR:Stb R) (hone:One R) (HE:EqEl 145 R 6):∀ (G:Nat→Prop) (w:World) (v u:Value) (l m:List α),Slv R 6 w G v l→Slv R 6 w G u m→(∀ b,G b→b < w.heap.size)→Calls Tryz.prog 144 #[v,u,.func (.func 145) #[] #[]] w (EqC w (l = m)):=by
 intro G w v u l m hv hu hG
 obtain ⟨A,c,rfl,_,hm1⟩:=hv.shape
 obtain ⟨B,d,rfl,_,hm2⟩:=hu.shape
 obtain ⟨n,hn⟩:=gX (l.length)
 obtain ⟨k,hk⟩:=gX (m.length)
 have hnn:n≤9223372036854775807:=by unfold maxLen at hm1; omega
 have hkk:k≤9223372036854775807:=by unfold maxLen at hm2; omega
 have HV:=qH hv
 have HU:=qH hu
 have HG:=qH hG
 rw [<- hn,<- hk]
 have HN:=qH hn
 have HK:=qH hk
 clear hv hu hm1 hm2 hn hk hG
 by_cases hnk:n = k
 ·subst hnk
  go_enter Tryz.func144,Tryz.ntmps144
  go_wp2_with fail
  go_loopw [17] (fun iv wr => ∃ i:Nat,iv = .int .i64 (i:Int)∧i≤n∧Hid (l.take i = m.take i)∧Hid (Below w.heap.size w wr)) (fun iv _ => n - (intOf iv).toNat)
  case atStart => exact ⟨0,rfl,Nat.zero_le _,qH rfl,qH (Below.refl _ _)⟩
  obtain ⟨i,rfl,hin,HT,HB⟩:=hrel
  by_cases hlt:i < n
  ·have hlt':(i:Int) < (n:Int):=by omega
   obtain ⟨x,hx⟩:∃ x,l[i]? = some x:=⟨_,List.getElem?_eq_getElem (by rw [<- HN.out]; exact hlt)⟩
   obtain ⟨y,hy⟩:∃ y,m[i]? = some y:=⟨_,List.getElem?_eq_getElem (by rw [<- HK.out]; exact hlt)⟩
   obtain ⟨b1,o1,vs,rfl,_,hbw,hvl,hRx,hcs⟩:=HV.out.at i x hx
   obtain ⟨b2,o2,us,rfl,_,hbw2,hul,hRy,hds⟩:=HU.out.at i y hy
   have hE:EltS b1 (o1 + i * 6) vs wr:=EltS.below (w:=w) hcs hbw HB.out
   have hD:EltS b2 (o2 + i * 6) us wr:=EltS.below (w:=w) hds hbw2 HB.out
   have ho1:=hone _ _ _ _ hRx
   have ho2:=hone _ _ _ _ hRy
   have HX:=qH hx
   have HY:=qH hy
   have HRX:=qH hRx
   have HRY:=qH hRy
   clear hcs hds hx hy hRx hRy
   go_upto_region 5 with fail
   refine ac (by rfl) ?_
   simp only [List.map]
   refine sq1i (i:Int) ?_
   refine sq1p b1 (o1 + i * 6) ?_
   refine bt 156 _ rfl b1 (o1 + i * 6) vs _ rfl hE Tryz.underlying156 rfl (by rw [hvl]; exact esz156) trivial ?_
   simp only [Act.put,PutA,PutZ,PutS]
   refine au (.pointer (some ⟨wr.heap.size,0,none⟩)) (wr.alloc (.cells #[.slice none 0 0,.int .i64 0,.int .i64 0,.slice none 0 0,.slice none 0 0,.slice none 0 0] 156)) (by go_simp) trivial ?_
   simp only [Act.put,PutA,PutZ,PutS]
   refine sq1i (i:Int) ?_
   refine as_ 156 _ _ rfl rfl wr.heap.size 156 _ vs rfl rfl (heap_alloc_new wr _) (by rw [hvl]; exact esz156) ho1 (by rw [hvl]; rfl) ?_
   intro w1 hb1 hg1
   have hq1:=bG (Nat.le_refl _) _ hg1
   have hD1:EltS b2 (o2 + i * 6) us w1:=EltS.below hD (Nat.lt_of_lt_of_le hbw2 HB.out.size) hq1
   have HB1:=qH (HB.out.trans (hq1.mono HB.out.size))
   refine ⟨trivial,?_⟩
   refine ad ?_
   obtain ⟨g1,hg1'⟩:=gX (wr.heap.size)
   have hgw:wr.heap.size < w1.heap.size:=ae hb1
   rw [<- hg1'] at hb1 hgw ⊢
   have HGW:=qH hg1'
   clear hE hD hg1 hq1 hg1' ho1
   go_upto_region 6 with fail
   refine ac (by rfl) ?_
   simp only [List.map]
   refine sq1 (.slice (some ⟨b2,o2,none⟩) n d) ?_
   refine sq1i (i:Int) ?_
   refine sq1p b2 (o2 + i * 6) ?_
   refine bt 156 _ rfl b2 (o2 + i * 6) us _ rfl hD1 Tryz.underlying156 rfl (by rw [hul]; exact esz156) trivial ?_
   simp only [Act.put,PutA,PutZ,PutS]
   refine au (.pointer (some ⟨w1.heap.size,0,none⟩)) (w1.alloc (.cells #[.slice none 0 0,.int .i64 0,.int .i64 0,.slice none 0 0,.slice none 0 0,.slice none 0 0] 156)) (by go_simp) trivial ?_
   simp only [Act.put,PutA,PutZ,PutS]
   refine as_ 156 _ _ rfl rfl w1.heap.size 156 _ us rfl rfl (heap_alloc_new w1 _) (by rw [hul]; exact esz156) ho2 (by rw [hul]; rfl) ?_
   intro w2 hb2 hg2
   have hq2:=bG (Nat.le_refl _) _ hg2
   have hb1':=(hq2.block _ hgw).trans hb1
   have HB2:=qH (HB1.out.trans (hq2.mono HB1.out.size))
   refine ⟨trivial,?_⟩
   refine ad ?_
   obtain ⟨g2,hg2'⟩:=gX (w1.heap.size)
   rw [<- hg2'] at hb2 ⊢
   clear hD1 hg2 hq2 hg2' ho2 hb1 hgw
   have C:=qH (HE G w2 vs us x y (Rp.below hR HRX.out HG.out HB2.out) (Rp.below hR HRY.out HG.out HB2.out) hvl hul (fun b h => Nat.lt_of_lt_of_le (HG.out b h) HB2.out.size))
   clear HRX HRY HB1 HGW
   go_upto_region 7 with fail
   refine ac (by rfl) ?_
   simp only [List.map]
   refine sq1 (.func (.func 145) #[] #[]) ?_
   refine ar 156 _ rfl g1 156 vs.toArray _ rfl hb1' Tryz.underlying156 rfl (by rw [List.size_toArray,hvl]; exact esz156) trivial ?_
   simp only [Act.put,PutA,PutZ,PutS]
   refine ar 156 _ rfl g2 156 us.toArray _ rfl hb2 Tryz.underlying156 rfl (by rw [List.size_toArray,hul]; exact esz156) trivial ?_
   simp only [Act.put,PutA,PutZ,PutS]
   refine af 145 #[.agg vs.toArray,.agg us.toArray] (by go_simp) ?_
   refine Calls.mono C.out ?_
   rintro e w3 ⟨r,rfl,hr,hb3⟩
   refine ⟨_,rfl,trivial,?_⟩
   simp only [Act.put,PutA,PutZ,PutS]
   refine sq1 (.bool (!r)) ?_
   refine ad ?_
   have HB3:=qH (HB2.out.trans (hb3.mono HB2.out.size))
   have HR:=qH hr
   clear hb1' hb2 C hb3 HB2 HB hr
   cases r
   ·go_wp2_with fail
    go_ret
    exact EqC.no (aJ HX.out HY.out (fun e => by have:=HR.out.2 e; cases this)) HB3.out
   go_wp2_with fail
   exact ⟨⟨i + 1,by go_num,by omega,qH (by rw [aQ HX.out,aQ HY.out,HT.out,HR.out.1 rfl]),HB3⟩,by simp [intOf]; omega⟩
  have hii:i = n:=by omega
  have hlt':¬ (i:Int) < (n:Int):=by omega
  go_wp2_with fail
  go_ret
  refine EqC.yes ?_ HB.out
  have h1:=HT.out
  rw [List.take_of_length_le (by rw [hii,HN.out]; exact Nat.le_refl _),List.take_of_length_le (by rw [hii,HK.out]; exact Nat.le_refl _)] at h1
  exact h1
 have hnk':((n:Int) == (k:Int)) = false:=by rw [beq_eq_false_iff_ne]; omega
 have hnk2:¬ ((n:Int) = (k:Int)):=by omega
 go_enter Tryz.func144,Tryz.ntmps144
 go_wp2_with fail
 go_ret
 refine EqC.no (fun e => hnk ?_) (Below.refl _ _)
 subst e
 rw [HN.out,HK.out]
theorem eq145 {α:Type} (R:Rp α) (hR:Stb R) (_hone:One R) (HI:EqSl 26 R 11):EqEl 145 (rwP R) 6:=by
 intro G w vs us x y hx hy _ _ hG
 obtain ⟨h0,h1,h2,h3,h4,a5,rfl,f0,f5⟩:=hx
 obtain ⟨j0,j1,j2,j3,j4,c5,rfl,g0,g5⟩:=hy
 obtain ⟨x0,x1⟩:=x
 obtain ⟨y0,y1⟩:=y
 have F0:=qH f0
 have F5:=qH f5
 have G0:=qH g0
 have G5:=qH g5
 have HG:=qH hG
 clear f0 f5 g0 g5 hG
 obtain ⟨N,hN⟩:=gX (w.heap.size)
 obtain ⟨W,hW⟩:=gX (((w.alloc (.cells #[h0,h1,h2,h3,h4,a5] 156)).alloc (.cells #[j0,j1,j2,j3,j4,c5] 156)))
 have hb1:W.heap[N]? = some (.cells #[h0,h1,h2,h3,h4,a5] 156 (0,0)):=by rw [hW,hN]; exact (Below.heap_alloc _ _ _ (by simp)).trans (heap_alloc_new _ _)
 have hb2:W.heap[N + 1]? = some (.cells #[j0,j1,j2,j3,j4,c5] 156 (0,0)):=by rw [hW,hN]; exact ah _ _ (by simp)
 have hB:Below w.heap.size w W:=by rw [hW]; exact ((Below.refl _ _).alloc (Nat.le_refl _) _).alloc (by simp) _
 have hn1:N < W.heap.size:=ae hb1
 have hn2:N + 1 < W.heap.size:=ae hb2
 have HW:=qH hW
 have HN:=qH hN
 have HB0:=qH hB
 have K0:=qH hb1
 have J0:=qH hb2
 clear hW hN hB hb1 hb2
 go_enter Tryz.func145,Tryz.ntmps145
 go_upto_region 1 with fail
 rw [<- HW.out,<- HN.out]
 clear HW
 have e0:=aa K0.out 0
 have d0:=aa J0.out 0
 have e1:=aa K0.out 1
 have d1:=aa J0.out 1
 have e2:=aa K0.out 2
 have d2:=aa J0.out 2
 have e3:=aa K0.out 3
 have d3:=aa J0.out 3
 have e4:=aa K0.out 4
 have d4:=aa J0.out 4
 have C:=qH (eq59 G W _ _ _ _ (Rp.below ay F0.out HG.out HB0.out) (Rp.below ay G0.out HG.out HB0.out) rfl rfl (fun b h => Nat.lt_of_lt_of_le (HG.out b h) HB0.out.size))
 go_wp2_with fail
 refine C.out.mono ?_
 rintro e w1 ⟨r0,rfl,hr,hb⟩
 have HR0:=qH hr
 have HB1:=qH (HB0.out.trans (hb.mono HB0.out.size))
 have K1:=qH ((hb.block _ hn1).trans K0.out)
 have J1:=qH ((hb.block _ hn2).trans J0.out)
 replace hn1:=Nat.lt_of_lt_of_le hn1 hb.size
 replace hn2:=Nat.lt_of_lt_of_le hn2 hb.size
 clear C hb hr HB0 K0 J0 e0 d0 e1 d1 e2 d2 e3 d3 e4 d4
 cases r0
 ·go_wp2_with fail
  go_ret
  exact EqC.no (fun e => by cases e; have:=HR0.out.2 rfl; cases this) HB1.out
 have e5:=aa K1.out 5
 have d5:=aa J1.out 5
 have C:=qH (eqf196 (ceP R) (bI hR) one_ce (eq197 R hR HI) G w1 _ _ _ _ (F5.out.below (bI hR) HG.out HB1.out) (G5.out.below (bI hR) HG.out HB1.out) (fun b h => Nat.lt_of_lt_of_le (HG.out b h) HB1.out.size))
 go_wp2_with fail
 refine C.out.mono ?_
 rintro e w2 ⟨r1,rfl,hr,hb⟩
 have HR1:=qH hr
 have HB2:=qH (HB1.out.trans (hb.mono HB1.out.size))
 have K2:=qH ((hb.block _ hn1).trans K1.out)
 have J2:=qH ((hb.block _ hn2).trans J1.out)
 replace hn1:=Nat.lt_of_lt_of_le hn1 hb.size
 replace hn2:=Nat.lt_of_lt_of_le hn2 hb.size
 clear C hb hr HB1 K1 J1 e5 d5
 cases r1
 ·go_wp2_with fail
  go_ret
  exact EqC.no (fun e => by cases e; have:=HR1.out.2 rfl; cases this) HB2.out
 go_wp2_with fail
 go_ret
 exact EqC.yes (by rw [HR0.out.1 (by trivial),HR1.out.1 (by trivial)]) HB2.out
theorem eqf71 {α:Type} (R:Rp α) (hR:Stb R) (hone:One R) (HE:EqEl 72 R 11):∀ (G:Nat→Prop) (w:World) (v u:Value) (l m:List α),Slv R 11 w G v l→Slv R 11 w G u m→(∀ b,G b→b < w.heap.size)→Calls Tryz.prog 71 #[v,u,.func (.func 72) #[] #[]] w (EqC w (l = m)):=by
 intro G w v u l m hv hu hG
 obtain ⟨A,c,rfl,_,hm1⟩:=hv.shape
 obtain ⟨B,d,rfl,_,hm2⟩:=hu.shape
 obtain ⟨n,hn⟩:=gX (l.length)
 obtain ⟨k,hk⟩:=gX (m.length)
 have hnn:n≤9223372036854775807:=by unfold maxLen at hm1; omega
 have hkk:k≤9223372036854775807:=by unfold maxLen at hm2; omega
 have HV:=qH hv
 have HU:=qH hu
 have HG:=qH hG
 rw [<- hn,<- hk]
 have HN:=qH hn
 have HK:=qH hk
 clear hv hu hm1 hm2 hn hk hG
 by_cases hnk:n = k
 ·subst hnk
  go_enter Tryz.func71,Tryz.ntmps71
  go_wp2_with fail
  go_loopw [17] (fun iv wr => ∃ i:Nat,iv = .int .i64 (i:Int)∧i≤n∧Hid (l.take i = m.take i)∧Hid (Below w.heap.size w wr)) (fun iv _ => n - (intOf iv).toNat)
  case atStart => exact ⟨0,rfl,Nat.zero_le _,qH rfl,qH (Below.refl _ _)⟩
  obtain ⟨i,rfl,hin,HT,HB⟩:=hrel
  by_cases hlt:i < n
  ·have hlt':(i:Int) < (n:Int):=by omega
   obtain ⟨x,hx⟩:∃ x,l[i]? = some x:=⟨_,List.getElem?_eq_getElem (by rw [<- HN.out]; exact hlt)⟩
   obtain ⟨y,hy⟩:∃ y,m[i]? = some y:=⟨_,List.getElem?_eq_getElem (by rw [<- HK.out]; exact hlt)⟩
   obtain ⟨b1,o1,vs,rfl,_,hbw,hvl,hRx,hcs⟩:=HV.out.at i x hx
   obtain ⟨b2,o2,us,rfl,_,hbw2,hul,hRy,hds⟩:=HU.out.at i y hy
   have hE:EltS b1 (o1 + i * 11) vs wr:=EltS.below (w:=w) hcs hbw HB.out
   have hD:EltS b2 (o2 + i * 11) us wr:=EltS.below (w:=w) hds hbw2 HB.out
   have ho1:=hone _ _ _ _ hRx
   have ho2:=hone _ _ _ _ hRy
   have HX:=qH hx
   have HY:=qH hy
   have HRX:=qH hRx
   have HRY:=qH hRy
   clear hcs hds hx hy hRx hRy
   go_upto_region 5 with fail
   refine ac (by rfl) ?_
   simp only [List.map]
   refine sq1i (i:Int) ?_
   refine sq1p b1 (o1 + i * 11) ?_
   refine bt 53 _ rfl b1 (o1 + i * 11) vs _ rfl hE Tryz.underlying53 rfl (by rw [hvl]; exact esz53) trivial ?_
   simp only [Act.put,PutA,PutZ,PutS]
   refine au (.pointer (some ⟨wr.heap.size,0,none⟩)) (wr.alloc (.cells #[.int .i64 0,.int .i64 0,.int .i64 0,.string ⟨#[]⟩,.slice none 0 0,.int .i64 0,.int .i64 0,.slice none 0 0,.slice none 0 0,.slice none 0 0,.slice none 0 0] 53)) (by go_simp) trivial ?_
   simp only [Act.put,PutA,PutZ,PutS]
   refine sq1i (i:Int) ?_
   refine as_ 53 _ _ rfl rfl wr.heap.size 53 _ vs rfl rfl (heap_alloc_new wr _) (by rw [hvl]; exact esz53) ho1 (by rw [hvl]; rfl) ?_
   intro w1 hb1 hg1
   have hq1:=bG (Nat.le_refl _) _ hg1
   have hD1:EltS b2 (o2 + i * 11) us w1:=EltS.below hD (Nat.lt_of_lt_of_le hbw2 HB.out.size) hq1
   have HB1:=qH (HB.out.trans (hq1.mono HB.out.size))
   refine ⟨trivial,?_⟩
   refine ad ?_
   obtain ⟨g1,hg1'⟩:=gX (wr.heap.size)
   have hgw:wr.heap.size < w1.heap.size:=ae hb1
   rw [<- hg1'] at hb1 hgw ⊢
   have HGW:=qH hg1'
   clear hE hD hg1 hq1 hg1' ho1
   go_upto_region 6 with fail
   refine ac (by rfl) ?_
   simp only [List.map]
   refine sq1 (.slice (some ⟨b2,o2,none⟩) n d) ?_
   refine sq1i (i:Int) ?_
   refine sq1p b2 (o2 + i * 11) ?_
   refine bt 53 _ rfl b2 (o2 + i * 11) us _ rfl hD1 Tryz.underlying53 rfl (by rw [hul]; exact esz53) trivial ?_
   simp only [Act.put,PutA,PutZ,PutS]
   refine au (.pointer (some ⟨w1.heap.size,0,none⟩)) (w1.alloc (.cells #[.int .i64 0,.int .i64 0,.int .i64 0,.string ⟨#[]⟩,.slice none 0 0,.int .i64 0,.int .i64 0,.slice none 0 0,.slice none 0 0,.slice none 0 0,.slice none 0 0] 53)) (by go_simp) trivial ?_
   simp only [Act.put,PutA,PutZ,PutS]
   refine as_ 53 _ _ rfl rfl w1.heap.size 53 _ us rfl rfl (heap_alloc_new w1 _) (by rw [hul]; exact esz53) ho2 (by rw [hul]; rfl) ?_
   intro w2 hb2 hg2
   have hq2:=bG (Nat.le_refl _) _ hg2
   have hb1':=(hq2.block _ hgw).trans hb1
   have HB2:=qH (HB1.out.trans (hq2.mono HB1.out.size))
   refine ⟨trivial,?_⟩
   refine ad ?_
   obtain ⟨g2,hg2'⟩:=gX (w1.heap.size)
   rw [<- hg2'] at hb2 ⊢
   clear hD1 hg2 hq2 hg2' ho2 hb1 hgw
   have C:=qH (HE G w2 vs us x y (Rp.below hR HRX.out HG.out HB2.out) (Rp.below hR HRY.out HG.out HB2.out) hvl hul (fun b h => Nat.lt_of_lt_of_le (HG.out b h) HB2.out.size))
   clear HRX HRY HB1 HGW
   go_upto_region 7 with fail
   refine ac (by rfl) ?_
   simp only [List.map]
   refine sq1 (.func (.func 72) #[] #[]) ?_
   refine ar 53 _ rfl g1 53 vs.toArray _ rfl hb1' Tryz.underlying53 rfl (by rw [List.size_toArray,hvl]; exact esz53) trivial ?_
   simp only [Act.put,PutA,PutZ,PutS]
   refine ar 53 _ rfl g2 53 us.toArray _ rfl hb2 Tryz.underlying53 rfl (by rw [List.size_toArray,hul]; exact esz53) trivial ?_
   simp only [Act.put,PutA,PutZ,PutS]
   refine af 72 #[.agg vs.toArray,.agg us.toArray] (by go_simp) ?_
   refine Calls.mono C.out ?_
   rintro e w3 ⟨r,rfl,hr,hb3⟩
   refine ⟨_,rfl,trivial,?_⟩
   simp only [Act.put,PutA,PutZ,PutS]
   refine sq1 (.bool (!r)) ?_
   refine ad ?_
   have HB3:=qH (HB2.out.trans (hb3.mono HB2.out.size))
   have HR:=qH hr
   clear hb1' hb2 C hb3 HB2 HB hr
   cases r
   ·go_wp2_with fail
    go_ret
    exact EqC.no (aJ HX.out HY.out (fun e => by have:=HR.out.2 e; cases this)) HB3.out
   go_wp2_with fail
   exact ⟨⟨i + 1,by go_num,by omega,qH (by rw [aQ HX.out,aQ HY.out,HT.out,HR.out.1 rfl]),HB3⟩,by simp [intOf]; omega⟩
  have hii:i = n:=by omega
  have hlt':¬ (i:Int) < (n:Int):=by omega
  go_wp2_with fail
  go_ret
  refine EqC.yes ?_ HB.out
  have h1:=HT.out
  rw [List.take_of_length_le (by rw [hii,HN.out]; exact Nat.le_refl _),List.take_of_length_le (by rw [hii,HK.out]; exact Nat.le_refl _)] at h1
  exact h1
 have hnk':((n:Int) == (k:Int)) = false:=by rw [beq_eq_false_iff_ne]; omega
 have hnk2:¬ ((n:Int) = (k:Int)):=by omega
 go_enter Tryz.func71,Tryz.ntmps71
 go_wp2_with fail
 go_ret
 refine EqC.no (fun e => hnk ?_) (Below.refl _ _)
 subst e
 rw [HN.out,HK.out]
theorem eq72 {α:Type} (R:Rp α) (hR:Stb R) (hone:One R) (HI:EqSl 26 R 11):EqEl 72 (isP R) 11:=by
 intro G w vs us x y hx hy _ _ hG
 obtain ⟨h0,h1,h2,h3,h4,a9,a10,rfl,_,f4,f9,f10⟩:=hx
 obtain ⟨j0,j1,j2,j3,j4,c9,c10,rfl,_,g4,g9,g10⟩:=hy
 obtain ⟨x0,x1,x2,x3,x4,x9,x10⟩:=x
 obtain ⟨y0,y1,y2,y3,y4,y9,y10⟩:=y
 have F4:=qH f4
 have F9:=qH f9
 have F10:=qH f10
 have G4:=qH g4
 have G9:=qH g9
 have G10:=qH g10
 have HG:=qH hG
 clear f4 f9 f10 g4 g9 g10 hG
 obtain ⟨N,hN⟩:=gX (w.heap.size)
 obtain ⟨W,hW⟩:=gX (((w.alloc (.cells #[.int .i64 x0,.int .i64 x1,.int .i64 x2,.string x3,h0,h1,h2,h3,h4,a9,a10] 53)).alloc (.cells #[.int .i64 y0,.int .i64 y1,.int .i64 y2,.string y3,j0,j1,j2,j3,j4,c9,c10] 53)))
 have hb1:W.heap[N]? = some (.cells #[.int .i64 x0,.int .i64 x1,.int .i64 x2,.string x3,h0,h1,h2,h3,h4,a9,a10] 53 (0,0)):=by rw [hW,hN]; exact (Below.heap_alloc _ _ _ (by simp)).trans (heap_alloc_new _ _)
 have hb2:W.heap[N + 1]? = some (.cells #[.int .i64 y0,.int .i64 y1,.int .i64 y2,.string y3,j0,j1,j2,j3,j4,c9,c10] 53 (0,0)):=by rw [hW,hN]; exact ah _ _ (by simp)
 have hB:Below w.heap.size w W:=by rw [hW]; exact ((Below.refl _ _).alloc (Nat.le_refl _) _).alloc (by simp) _
 have hn1:N < W.heap.size:=ae hb1
 have hn2:N + 1 < W.heap.size:=ae hb2
 have HW:=qH hW
 have HN:=qH hN
 have HB0:=qH hB
 have K0:=qH hb1
 have J0:=qH hb2
 clear hW hN hB hb1 hb2
 go_enter Tryz.func72,Tryz.ntmps72
 go_upto_region 1 with fail
 rw [<- HW.out,<- HN.out]
 clear HW
 have e0:=aa K0.out 0
 have d0:=aa J0.out 0
 have e1:=aa K0.out 1
 have d1:=aa J0.out 1
 have e2:=aa K0.out 2
 have d2:=aa J0.out 2
 have e3:=aa K0.out 3
 have d3:=aa J0.out 3
 have e4:=aa K0.out 4
 have d4:=aa J0.out 4
 have e5:=aa K0.out 5
 have d5:=aa J0.out 5
 have e6:=aa K0.out 6
 have d6:=aa J0.out 6
 have e7:=aa K0.out 7
 have d7:=aa J0.out 7
 have e8:=aa K0.out 8
 have d8:=aa J0.out 8
 by_cases q0:x0 = y0
 ·subst q0
  by_cases q1:x1 = y1
  ·subst q1
   by_cases q2:x2 = y2
   ·subst q2
    by_cases q3:x3 = y3
    ·subst q3
     have C:=qH (eq59 G W _ _ _ _ (Rp.below ay F4.out HG.out HB0.out) (Rp.below ay G4.out HG.out HB0.out) rfl rfl (fun b h => Nat.lt_of_lt_of_le (HG.out b h) HB0.out.size))
     go_wp2_with fail
     refine C.out.mono ?_
     rintro e w1 ⟨r4,rfl,hr,hb⟩
     have HR4:=qH hr
     have HB1:=qH (HB0.out.trans (hb.mono HB0.out.size))
     have K1:=qH ((hb.block _ hn1).trans K0.out)
     have J1:=qH ((hb.block _ hn2).trans J0.out)
     replace hn1:=Nat.lt_of_lt_of_le hn1 hb.size
     replace hn2:=Nat.lt_of_lt_of_le hn2 hb.size
     clear C hb hr HB0 K0 J0 e0 d0 e1 d1 e2 d2 e3 d3 e4 d4 e5 d5 e6 d6 e7 d7 e8 d8
     cases r4
     ·go_wp2_with fail
      go_ret
      exact EqC.no (fun e => by cases e; have:=HR4.out.2 rfl; cases this) HB1.out
     have e9:=aa K1.out 9
     have d9:=aa J1.out 9
     have C:=qH (HI G w1 _ _ _ _ (F9.out.below hR HG.out HB1.out) (G9.out.below hR HG.out HB1.out) (fun b h => Nat.lt_of_lt_of_le (HG.out b h) HB1.out.size))
     go_wp2_with fail
     refine C.out.mono ?_
     rintro e w2 ⟨r5,rfl,hr,hb⟩
     have HR5:=qH hr
     have HB2:=qH (HB1.out.trans (hb.mono HB1.out.size))
     have K2:=qH ((hb.block _ hn1).trans K1.out)
     have J2:=qH ((hb.block _ hn2).trans J1.out)
     replace hn1:=Nat.lt_of_lt_of_le hn1 hb.size
     replace hn2:=Nat.lt_of_lt_of_le hn2 hb.size
     clear C hb hr HB1 K1 J1 e9 d9
     cases r5
     ·go_wp2_with fail
      go_ret
      exact EqC.no (fun e => by cases e; have:=HR5.out.2 rfl; cases this) HB2.out
     have e10:=aa K2.out 10
     have d10:=aa J2.out 10
     have C:=qH (eqf144 (rwP R) (bs hR) one_rw (eq145 R hR hone HI) G w2 _ _ _ _ (F10.out.below (bs hR) HG.out HB2.out) (G10.out.below (bs hR) HG.out HB2.out) (fun b h => Nat.lt_of_lt_of_le (HG.out b h) HB2.out.size))
     go_wp2_with fail
     refine C.out.mono ?_
     rintro e w3 ⟨r6,rfl,hr,hb⟩
     have HR6:=qH hr
     have HB3:=qH (HB2.out.trans (hb.mono HB2.out.size))
     have K3:=qH ((hb.block _ hn1).trans K2.out)
     have J3:=qH ((hb.block _ hn2).trans J2.out)
     replace hn1:=Nat.lt_of_lt_of_le hn1 hb.size
     replace hn2:=Nat.lt_of_lt_of_le hn2 hb.size
     clear C hb hr HB2 K2 J2 e10 d10
     cases r6
     ·go_wp2_with fail
      go_ret
      exact EqC.no (fun e => by cases e; have:=HR6.out.2 rfl; cases this) HB3.out
     go_wp2_with fail
     go_ret
     exact EqC.yes (by rw [HR4.out.1 (by trivial),HR5.out.1 (by trivial),HR6.out.1 (by trivial)]) HB3.out
    have r3:=beqS_ne q3
    have s3:=beqS_ne' q3
    go_wp2_with fail
    go_ret
    exact EqC.no (fun e => by cases e; first | done | exact q3 rfl) HB0.out
   have r2:(x2 == y2) = false:=by rw [beq_eq_false_iff_ne]; exact q2
   go_wp2_with fail
   go_ret
   exact EqC.no (fun e => by cases e; first | done | exact q2 rfl) HB0.out
  have r1:(x1 == y1) = false:=by rw [beq_eq_false_iff_ne]; exact q1
  go_wp2_with fail
  go_ret
  exact EqC.no (fun e => by cases e; first | done | exact q1 rfl) HB0.out
 have r0:(x0 == y0) = false:=by rw [beq_eq_false_iff_ne]; exact q0
 go_wp2_with fail
 go_ret
 exact EqC.no (fun e => by cases e; first | done | exact q0 rfl) HB0.out
theorem eq26_of {α:Type} (R:Rp α) (hR:Stb R) (hone:One R) (HE:EqEl 72 R 11):EqSl 26 R 11:=by
 intro G w v u l m hv hu hG
 have C:=qH (eqf71 R hR hone HE G w v u l m hv hu hG)
 obtain ⟨A,c,rfl,_,_⟩:=hv.shape
 obtain ⟨B,d,rfl,_,_⟩:=hu.shape
 clear hv hu hG
 go_enter Tryz.func26,Tryz.ntmps26
 go_wp2_with fail
 refine C.out.mono ?_
 rintro e w1 ⟨b,rfl,hb,hw⟩
 have HB:=qH hb
 clear hb C
 go_wp2_with fail
 go_ret
 exact ⟨b,rfl,HB.out,hw⟩
theorem eq_items:∀ n,EqSl 26 (itP n) 11
 | 0 => eq26_of (itP 0) (aV 0) (one_it 0) (fun _ _ _ _ x _ _ _ _ _ _ => Empty.elim x)
 | n + 1 => eq26_of (itP (n + 1)) (aV (n + 1)) (one_it (n + 1)) (eq72 (itP n) (aV n) (one_it n) (eq_items n))
end Go.Proofs.YtmhhcfceikcfbaaGreat
