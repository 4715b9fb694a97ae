/- Walks: the first fault, small questions. -/
import Derived.Deep.CutRange
import Derived.Test.YtmhhcfceikcfbaaGreatDeS2
namespace Go.Proofs.YtmhhcfceikcfbaaGreat
open Go.RowKit
set_option maxRecDepth 100000
set_option maxHeartbeats 4000000
def aS:List Int→Int
 | [] => 0
 | x::r => if x = 0 then aS r else x
theorem bo (b:Bool) (x:Int) (w:World) :
  Calls Tryz.prog 51 #[.bool b,.int .i64 x] w fun e w' => e = .returned (.int .i64 (if b then x else 0))∧w = w':=by
 cases b
 ·go_enter Tryz.func51,Tryz.ntmps51
  go_wp2_with fail
  go_ret
  exact ⟨rfl,rfl⟩
 go_enter Tryz.func51,Tryz.ntmps51
 go_wp2_with fail
 go_ret
 exact ⟨rfl,rfl⟩
theorem first46 (l:List Int) (g c:Nat) (w:World) (hc:∀ (j:Nat) (x:Int),l[j]? = some x→w.cell? ⟨g,j,none⟩ = some (.int .i64 x)) (hl:l.length≤1000) :
  Calls Tryz.prog 46 #[.slice (some ⟨g,0,none⟩) l.length c] w fun e w' => e = .returned (.int .i64 (aS l))∧w = w':=by
 obtain ⟨M,hM⟩:=gX (aS l)
 have HM:Hid (aS (l.drop 0) = M):=qH (by rw [hM]; rfl)
 have HC:=qH hc
 obtain ⟨n,hn⟩:=gX (l.length)
 have hn2:n≤1000:=by omega
 rw [<- hM,<- hn]
 have HN:=qH hn
 clear hc hM hn
 go_enter Tryz.func46,Tryz.ntmps46
 go_wp2_with fail
 go_loop [7] (fun iv => ∃ i:Nat,iv = .int .i64 (i:Int)∧i≤n∧Hid (aS (l.drop i) = M)) (fun iv => n - (intOf iv).toNat)
 case atStart => exact ⟨0,rfl,Nat.zero_le _,HM⟩
 obtain ⟨i,rfl,hin,HI⟩:=hrel
 clear HM
 by_cases hlt:i < n
 ·have hlt':(i:Int) < (n:Int):=by omega
  have hx:l[i]? = some (l[i]'(by rw [<- HN.out]; exact hlt)):=List.getElem?_eq_getElem (by rw [<- HN.out]; exact hlt)
  obtain ⟨x,hxx⟩:=gX (l[i]'(by rw [<- HN.out]; exact hlt))
  rw [<- hxx] at hx
  have c0:=HC.out i x hx
  have HE:Hid ((if x = 0 then aS (l.drop (i + 1)) else x) = M):=qH (by
   rw [<- HI.out,List.drop_eq_getElem_cons (show i < l.length by rw [<- HN.out]; exact hlt),<- hxx]
   rfl)
  clear HI hx hxx
  rcases Int.decEq x 0 with he | he
  ·have d0:(x != 0) = true:=by simpa using he
   have HE2:Hid (x = M):=qH (by rw [<- HE.out,if_neg he])
   clear he HE
   go_wp2_with fail
   go_ret
   exact ⟨by first | rfl | (rw [HE2.out]; rfl),rfl⟩
  subst he
  have HE2:Hid (aS (l.drop (i + 1)) = M):=qH (by rw [<- HE.out,if_pos rfl])
  clear HE
  go_wp2_with fail
  go_round
  case rel => exact ⟨i + 1,by go_num,by omega,HE2⟩
  simp [intOf]; omega
 have hlt':¬ (i:Int) < (n:Int):=by omega
 have HE2:Hid ((0:Int) = M):=qH (by
  rw [<- HI.out,List.drop_eq_nil_of_le (by rw [<- HN.out]; omega)]
  rfl)
 go_wp2_with fail
 go_ret
 exact ⟨by first | rfl | (rw [HE2.out]; rfl),rfl⟩
theorem in107 (x a b:Int) (w:World):Calls Tryz.prog 107 #[.int .i64 x,.int .i64 a,.int .i64 b] w fun e w' => e = .returned (.bool (decide (a≤x) && decide (x≤b)))∧w = w':=by
 by_cases h1:a≤x
 ·by_cases h2:x≤b
  ·have d1:decide (a≤x) = true:=by simpa using h1
   have d2:decide (x≤b) = true:=by simpa using h2
   go_enter Tryz.func107,Tryz.ntmps107
   go_wp2_with fail
   go_ret
   exact ⟨by first | rfl | (rw [d1,d2]; rfl),rfl⟩
  have d1:decide (a≤x) = true:=by simpa using h1
  have d2:decide (x≤b) = false:=by simpa using h2
  go_enter Tryz.func107,Tryz.ntmps107
  go_wp2_with fail
  go_ret
  exact ⟨rfl,rfl⟩
 have d1:decide (a≤x) = false:=by simpa using h1
 go_enter Tryz.func107,Tryz.ntmps107
 go_wp2_with fail
 go_ret
 exact ⟨rfl,rfl⟩
end Go.Proofs.YtmhhcfceikcfbaaGreat
namespace Go.Proofs.YtmhhcfceikcfbaaGreat
open Go.RowKit
set_option maxRecDepth 100000
set_option maxHeartbeats 4000000
def inB (n lo hi:Int):Bool:=decide (lo≤n) && decide (n≤hi)
def AllC (V:Int) (Fin:World→Prop) (e:Ending) (w':World):Prop:=e = .returned (.int .i64 V)∧Fin w'
def StepC (V:Int) (Fin:World→Prop) (Nx:World→Prop) (e:Ending) (w':World):Prop:=∃ r:Int,e = .returned (.int .i64 r)∧((r≠0∧r = V∧Fin w')∨(r = 0∧Nx w'))
theorem bN {f:FuncId} {lb:Array Value} {a:Act} {w:World} {o:Oper} {x y:Operand} {ts:Array TypeId} {v:Value} (hent:∀ args w,(callFunc f args).run Tryz.prog w = .ok (.enter f args) w)
  (ho:o.op = .call { callee:=.value x,args:=#[y],argTypes:=ts }:=by rfl) (hx:a.eval x = .func (.func f) #[] lb:=by rfl) (hy:a.eval y = v:=by rfl):(execOp a.eval o).run Tryz.prog w = .ok (.enter f (#[v]++lb)) w:=by
 unfold execOp
 simp only [ho]
 simp [resolve,hx,hy,Deferred.ofValue,invoke,hent]
theorem all102 (F:FuncId) (lb:Array Value) (hent:∀ args w,(callFunc F args).run Tryz.prog w = .ok (.enter F args) w) (n:Nat) (hn:n≤9223372036854775807) (V:Int) (Inv:Nat→World→Prop) (Fin:World→Prop) (w:World) (h0:Inv 0 w)
  (hstep:∀ i,i < n→∀ W,Inv i W→Calls Tryz.prog F (#[.int .i64 (i:Int)]++lb) W (StepC V Fin (Inv (i + 1)))) (hend:∀ W,Inv n W→V = 0∧Fin W) :
  Calls Tryz.prog 102 #[.int .i64 (n:Int),.func (.func F) #[] lb] w (AllC V Fin):=by
 have HI0:=qH h0
 have HS:=qH hstep
 have HE:=qH hend
 have HT:=qH hent
 clear h0 hstep hend hent
 go_enter Tryz.func102,Tryz.ntmps102
 go_wp2_with fail
 go_loopw [8] (fun iv wr => ∃ i:Nat,iv = .int .i64 (i:Int)∧i≤n∧Hid (Inv i wr)) (fun iv _ => n - (intOf iv).toNat)
 case atStart => exact ⟨0,rfl,Nat.zero_le _,HI0⟩
 obtain ⟨i,rfl,hin,HI⟩:=hrel
 clear HI0
 by_cases hlt:i < n
 ·have hlt':(i:Int) < (n:Int):=by omega
  go_upto_region 4 with fail
  refine ac (by rfl) ?_
  simp only [List.map]
  refine sq1 (.func (.func F) #[] lb) ?_
  refine sq1i (i:Int) ?_
  refine af F (#[.int .i64 (i:Int)]++lb) (bN HT.out) ?_
  refine Calls.mono (HS.out i hlt wr HI.out) ?_
  rintro e w2 ⟨r,rfl,hr⟩
  have HR:=qH hr
  clear hr
  refine ⟨_,rfl,trivial,?_⟩
  simp only [Act.put,PutA,PutZ,PutS]
  refine sq1i r ?_
  refine ad ?_
  by_cases h:r = 0
  ·subst h
   have HN:Hid (Inv (i + 1) w2):=qH (by
    rcases HR.out with ⟨q,_⟩ | ⟨_,q⟩
    ·exact absurd rfl q
    exact q)
   clear HR HI
   go_wp2_with fail
   exact ⟨⟨i + 1,by go_num,by omega,HN⟩,by simp [intOf]; omega⟩
  have b1:(r == 0) = false:=by rw [beq_eq_false_iff_ne]; exact h
  have HN:Hid (r = V∧Fin w2):=qH (by
   rcases HR.out with ⟨_,q⟩ | ⟨q,_⟩
   ·exact q
   exact absurd q h)
  clear HR HI h
  go_wp2_with fail
  go_ret
  exact ⟨by rw [<- HN.out.1]; rfl,HN.out.2⟩
 have hlt':¬ (i:Int) < (n:Int):=by omega
 obtain rfl:i = n:=by omega
 have HF:=qH (HE.out wr HI.out)
 clear HI
 go_wp2_with fail
 go_ret
 exact ⟨by rw [HF.out.1]; rfl,HF.out.2⟩
def incE (ids:Nat→Int) (i:Nat):Int:=if (decide (1≤ids i) && decide (ids i≤1073741824)) = false then 18 else if 0 < i∧ids i = ids (i - 1) then 7 else if 0 < i∧ids i < ids (i - 1) then 6 else 0
theorem inc104 (F:FuncId) (lb:Array Value) (hent:∀ args w,(callFunc F args).run Tryz.prog w = .ok (.enter F args) w) (ids:Nat→Int) (i:Nat) (hi:i≤9223372036854775807) (w:World)
  (hC:∀ k,k≤i→∀ W,Below w.heap.size w W→Calls Tryz.prog F (#[.int .i64 (k:Int)]++lb) W (RetI (ids k) W)) :
  Calls Tryz.prog 104 #[.int .i64 (i:Int),.func (.func F) #[] lb] w (RetI (incE ids i) w):=by
 obtain ⟨V,hV⟩:=gX (incE ids i)
 rw [<- hV]
 unfold incE at hV
 obtain ⟨m,hm⟩:=gX (i - 1)
 rw [<- hm] at hV
 have HM:=qH hm
 have HS:=qH hV
 have HC:=qH hC
 have HT:=qH hent
 have HB0:=qH (Below.refl w.heap.size w)
 clear hV hC hent hm
 go_enter Tryz.func104,Tryz.ntmps104
 go_upto_region 1 with fail
 refine ac (by rfl) ?_
 simp only [List.map]
 refine sq1 (.func (.func F) #[] lb) ?_
 refine sq1i (i:Int) ?_
 refine af F (#[.int .i64 (i:Int)]++lb) (bN HT.out) ?_
 refine Calls.mono (HC.out i (by omega) _ HB0.out) ?_
 rintro e w1 ⟨rfl,hb1⟩
 have HB:=qH hb1
 clear hb1 HB0
 refine ⟨_,rfl,trivial,?_⟩
 simp only [Act.put,PutA,PutZ,PutS]
 refine af 107 #[.int .i64 (ids i),.int .i64 1,.int .i64 1073741824] (by go_simp) ?_
 refine Calls.mono (in107 (ids i) 1 1073741824 w1) ?_
 rintro e w2 ⟨rfl,rfl⟩
 obtain ⟨bb,hbb⟩:=gX ((decide (1≤ids i) && decide (ids i≤1073741824)))
 rw [<- hbb] at HS ⊢
 clear hbb
 refine ⟨_,rfl,trivial,?_⟩
 simp only [Act.put,PutA,PutZ,PutS]
 refine sq1 (.bool (!bb)) ?_
 refine sq1 (.bool (!bb)) ?_
 refine ad ?_
 cases bb
 ·have HF:=qH (show V = 18 from HS.out.trans (if_pos rfl))
  clear HS
  go_wp2_with fail
  go_ret
  exact ⟨by rw [HF.out]; rfl,HB.out⟩
 replace HS:=qH (show V = _ from HS.out.trans (if_neg (by decide)))
 go_upto_region 3 with fail
 go_cut [11] from 12 to 23 (fun bv wr => bv = .bool (decide (0 < i∧ids i = ids m))∧Hid (Below w.heap.size w wr))
 case first =>
  by_cases h0:i = 0
  ·have dz:decide (0 < (i:Int)) = false:=by simp; omega
   have dz3:decide (0 < i) = false:=by simp; omega
   have dP:decide (0 < i∧ids i = ids m) = false:=by rw [decide_eq_false_iff_not]; omega
   go_wp2_with fail
   go_meet
   exact ⟨by rw [dP],HB⟩
  have hi2:decide ((0:Int) < (i:Int)) = true:=by simp; omega
  have hi3:decide (0 < i) = true:=by simp; omega
  have em:IntKind.i64.wrap ((i:Int) - 1) = (m:Int):=by rw [IntWalk.i64_in _ (by omega)]; have:=HM.out; omega
  have em2:wrap64 ((i:Int) - 1) = (m:Int):=by rw [IntWalk.wrap64_in _ (by omega)]; have:=HM.out; omega
  have em3:(i:Int) - 1 = (m:Int):=by have:=HM.out; omega
  have em4:IntKind.i64.wrap (m:Int) = (m:Int):=IntWalk.i64_in _ (by have:=HM.out; omega)
  by_cases hq:ids i = ids m
  ·have dP:decide (0 < i∧ids i = ids m) = true:=by rw [decide_eq_true_iff]; exact ⟨by omega,hq⟩
   have dq:=(show (ids i == ids m) = true by rw [beq_iff_eq]; exact hq)
   refine aG ?_
   simp only [List.map]
   refine gd2i (i:Int) ?_
   refine gd2b true ?_
   refine gd2b true ?_
   refine gd2 (.func (.func F) #[] lb) ?_
   refine gd2i (i:Int) ?_
   refine ax rfl ?_
   refine af F (#[.int .i64 (i:Int)]++lb) (bN HT.out) ?_
   refine Calls.mono (HC.out i (by have:=HM.out; omega) _ HB.out) ?_
   rintro e wa ⟨rfl,hb⟩
   have HBa:=qH (HB.out.trans (hb.mono HB.out.size))
   clear hb
   refine ⟨_,rfl,trivial,?_⟩
   refine ad ?_
   simp only [Act.put,PutA,PutZ,PutS]
   refine gd2 (.func (.func F) #[] lb) ?_
   refine gd2i (i:Int) ?_
   refine gd2i (m:Int) ?_
   refine ax rfl ?_
   refine af F (#[.int .i64 (m:Int)]++lb) (bN HT.out) ?_
   refine Calls.mono (HC.out m (by have:=HM.out; omega) _ HBa.out) ?_
   rintro e wb ⟨rfl,hb⟩
   have HBb:=qH (HBa.out.trans (hb.mono HBa.out.size))
   clear hb
   refine ⟨_,rfl,trivial,?_⟩
   refine ad ?_
   simp only [Act.put,PutA,PutZ,PutS]
   refine gd2b true ?_
   refine gd2b true ?_
   refine ax rfl ?_
   refine a7 (.bool true) (by go_simp) trivial ?_
   refine ad ?_
   simp only [Act.put,PutA,PutZ,PutS]
   refine NoPanic.normal (NoPanic.normal ?_)
   go_wp2_with fail
   go_meet
   exact ⟨by rw [dP],HBb⟩
  have dP:decide (0 < i∧ids i = ids m) = false:=by rw [decide_eq_false_iff_not]; exact fun q => hq q.2
  have dq:=(show (ids i == ids m) = false by rw [beq_eq_false_iff_ne]; exact hq)
  refine aG ?_
  simp only [List.map]
  refine gd2i (i:Int) ?_
  refine gd2b true ?_
  refine gd2b true ?_
  refine gd2 (.func (.func F) #[] lb) ?_
  refine gd2i (i:Int) ?_
  refine ax rfl ?_
  refine af F (#[.int .i64 (i:Int)]++lb) (bN HT.out) ?_
  refine Calls.mono (HC.out i (by have:=HM.out; omega) _ HB.out) ?_
  rintro e wa ⟨rfl,hb⟩
  have HBa:=qH (HB.out.trans (hb.mono HB.out.size))
  clear hb
  refine ⟨_,rfl,trivial,?_⟩
  refine ad ?_
  simp only [Act.put,PutA,PutZ,PutS]
  refine gd2 (.func (.func F) #[] lb) ?_
  refine gd2i (i:Int) ?_
  refine gd2i (m:Int) ?_
  refine ax rfl ?_
  refine af F (#[.int .i64 (m:Int)]++lb) (bN HT.out) ?_
  refine Calls.mono (HC.out m (by have:=HM.out; omega) _ HBa.out) ?_
  rintro e wb ⟨rfl,hb⟩
  have HBb:=qH (HBa.out.trans (hb.mono HBa.out.size))
  clear hb
  refine ⟨_,rfl,trivial,?_⟩
  refine ad ?_
  simp only [Act.put,PutA,PutZ,PutS]
  refine gd2b false ?_
  refine gd2b false ?_
  refine ax rfl ?_
  refine a7 (.bool false) (by go_simp) trivial ?_
  refine ad ?_
  simp only [Act.put,PutA,PutZ,PutS]
  refine NoPanic.normal (NoPanic.normal ?_)
  go_wp2_with fail
  go_meet
  exact ⟨by rw [dP],HBb⟩
 obtain ⟨rfl,HB⟩:=hcut
 by_cases hP1:0 < i∧ids i = ids m
 ·have dP:decide (0 < i∧ids i = ids m) = true:=by rw [decide_eq_true_iff]; exact hP1
  have HF:=qH (show V = 7 from HS.out.trans (if_pos hP1))
  rw [dP]
  clear HS
  go_wp2_with fail
  go_ret
  exact ⟨by rw [HF.out]; rfl,HB.out⟩
 have dP:decide (0 < i∧ids i = ids m) = false:=by rw [decide_eq_false_iff_not]; exact hP1
 replace HS:=qH (show V = _ from HS.out.trans (if_neg hP1))
 rw [dP]
 clear dP
 go_upto_region 5 with fail
 go_cut [24] from 25 to 36 (fun bv wr => bv = .bool (decide (0 < i∧ids i < ids m))∧Hid (Below w.heap.size w wr))
 case first =>
  by_cases h0:i = 0
  ·have dz:decide (0 < (i:Int)) = false:=by simp; omega
   have dz3:decide (0 < i) = false:=by simp; omega
   have dP:decide (0 < i∧ids i < ids m) = false:=by rw [decide_eq_false_iff_not]; omega
   go_wp2_with fail
   go_meet
   exact ⟨by rw [dP],HB⟩
  have hi2:decide ((0:Int) < (i:Int)) = true:=by simp; omega
  have hi3:decide (0 < i) = true:=by simp; omega
  have em:IntKind.i64.wrap ((i:Int) - 1) = (m:Int):=by rw [IntWalk.i64_in _ (by omega)]; have:=HM.out; omega
  have em2:wrap64 ((i:Int) - 1) = (m:Int):=by rw [IntWalk.wrap64_in _ (by omega)]; have:=HM.out; omega
  have em3:(i:Int) - 1 = (m:Int):=by have:=HM.out; omega
  have em4:IntKind.i64.wrap (m:Int) = (m:Int):=IntWalk.i64_in _ (by have:=HM.out; omega)
  by_cases hq:ids i < ids m
  ·have dP:decide (0 < i∧ids i < ids m) = true:=by rw [decide_eq_true_iff]; exact ⟨by omega,hq⟩
   have dq:=(show decide (ids i < ids m) = true by simpa using hq)
   refine aG ?_
   simp only [List.map]
   refine gd2i (i:Int) ?_
   refine gd2b true ?_
   refine gd2b true ?_
   refine gd2 (.func (.func F) #[] lb) ?_
   refine gd2i (i:Int) ?_
   refine ax rfl ?_
   refine af F (#[.int .i64 (i:Int)]++lb) (bN HT.out) ?_
   refine Calls.mono (HC.out i (by have:=HM.out; omega) _ HB.out) ?_
   rintro e wa ⟨rfl,hb⟩
   have HBa:=qH (HB.out.trans (hb.mono HB.out.size))
   clear hb
   refine ⟨_,rfl,trivial,?_⟩
   refine ad ?_
   simp only [Act.put,PutA,PutZ,PutS]
   refine gd2 (.func (.func F) #[] lb) ?_
   refine gd2i (i:Int) ?_
   refine gd2i (m:Int) ?_
   refine ax rfl ?_
   refine af F (#[.int .i64 (m:Int)]++lb) (bN HT.out) ?_
   refine Calls.mono (HC.out m (by have:=HM.out; omega) _ HBa.out) ?_
   rintro e wb ⟨rfl,hb⟩
   have HBb:=qH (HBa.out.trans (hb.mono HBa.out.size))
   clear hb
   refine ⟨_,rfl,trivial,?_⟩
   refine ad ?_
   simp only [Act.put,PutA,PutZ,PutS]
   refine gd2b true ?_
   refine gd2b true ?_
   refine ax rfl ?_
   refine a7 (.bool true) (by go_simp) trivial ?_
   refine ad ?_
   simp only [Act.put,PutA,PutZ,PutS]
   refine NoPanic.normal (NoPanic.normal ?_)
   go_wp2_with fail
   go_meet
   exact ⟨by rw [dP],HBb⟩
  have dP:decide (0 < i∧ids i < ids m) = false:=by rw [decide_eq_false_iff_not]; exact fun q => hq q.2
  have dq:=(show decide (ids i < ids m) = false by simpa using hq)
  refine aG ?_
  simp only [List.map]
  refine gd2i (i:Int) ?_
  refine gd2b true ?_
  refine gd2b true ?_
  refine gd2 (.func (.func F) #[] lb) ?_
  refine gd2i (i:Int) ?_
  refine ax rfl ?_
  refine af F (#[.int .i64 (i:Int)]++lb) (bN HT.out) ?_
  refine Calls.mono (HC.out i (by have:=HM.out; omega) _ HB.out) ?_
  rintro e wa ⟨rfl,hb⟩
  have HBa:=qH (HB.out.trans (hb.mono HB.out.size))
  clear hb
  refine ⟨_,rfl,trivial,?_⟩
  refine ad ?_
  simp only [Act.put,PutA,PutZ,PutS]
  refine gd2 (.func (.func F) #[] lb) ?_
  refine gd2i (i:Int) ?_
  refine gd2i (m:Int) ?_
  refine ax rfl ?_
  refine af F (#[.int .i64 (m:Int)]++lb) (bN HT.out) ?_
  refine Calls.mono (HC.out m (by have:=HM.out; omega) _ HBa.out) ?_
  rintro e wb ⟨rfl,hb⟩
  have HBb:=qH (HBa.out.trans (hb.mono HBa.out.size))
  clear hb
  refine ⟨_,rfl,trivial,?_⟩
  refine ad ?_
  simp only [Act.put,PutA,PutZ,PutS]
  refine gd2b false ?_
  refine gd2b false ?_
  refine ax rfl ?_
  refine a7 (.bool false) (by go_simp) trivial ?_
  refine ad ?_
  simp only [Act.put,PutA,PutZ,PutS]
  refine NoPanic.normal (NoPanic.normal ?_)
  go_wp2_with fail
  go_meet
  exact ⟨by rw [dP],HBb⟩
 obtain ⟨rfl,HB⟩:=hcut
 by_cases hP2:0 < i∧ids i < ids m
 ·have dP:decide (0 < i∧ids i < ids m) = true:=by rw [decide_eq_true_iff]; exact hP2
  have HF:=qH (show V = 6 from HS.out.trans (if_pos hP2))
  rw [dP]
  clear HS
  go_wp2_with fail
  go_ret
  exact ⟨by rw [HF.out]; rfl,HB.out⟩
 have dP:decide (0 < i∧ids i < ids m) = false:=by rw [decide_eq_false_iff_not]; exact hP2
 replace HS:=qH (show V = _ from HS.out.trans (if_neg hP2))
 rw [dP]
 clear dP
 go_wp2_with fail
 go_ret
 exact ⟨by rw [HS.out]; rfl,HB.out⟩
def authB (s:ByteArray):Bool:=decide (1≤s.size∧s.size≤40) && validB s
def txtE (s:ByteArray):Int:=aS [if (!validB s) then 12 else 0,if 1024 < s.size then 10 else 0]
theorem author106 (s:ByteArray) (w:World) (hs:s.size≤1048576000):Calls Tryz.prog 106 #[.string s] w (RetB (authB s) w):=by
 obtain ⟨V,hV⟩:=gX (authB s)
 rw [<- hV]
 unfold authB at hV
 have C:=qH (valid_lib s w hs)
 change Hid (Calls _ _ _ _ fun e w' => e = .returned (.bool (validB s))∧w = w') at C
 obtain ⟨vb,hvb⟩:=gX (validB s)
 rw [<- hvb] at hV C
 clear hvb
 by_cases h1:1≤s.size
 ·have p1:(s.size:Int) ≥ 1:=by omega
  by_cases h2:s.size≤40
  ·have p2:(s.size:Int)≤40:=by omega
   have HV:=qH (show V = vb by rw [hV]; simp [h1,h2])
   clear hV
   go_enter Tryz.func106,Tryz.ntmps106
   go_wp2_with fail
   refine C.out.mono ?_
   rintro e w1 ⟨rfl,rfl⟩
   go_wp2_with fail
   go_ret
   exact ⟨by rw [HV.out]; rfl,Below.refl _ _⟩
  have p2:¬ (s.size:Int)≤40:=by omega
  have HV:=qH (show V = false by rw [hV]; simp; omega)
  clear hV
  go_enter Tryz.func106,Tryz.ntmps106
  go_wp2_with fail
  go_ret
  exact ⟨by rw [HV.out]; rfl,Below.refl _ _⟩
 have p1:(s.size:Int) < 1:=by omega
 have p2:¬ (s.size:Int) ≥ 1:=by omega
 have HV:=qH (show V = false by rw [hV]; simp; omega)
 clear hV
 go_enter Tryz.func106,Tryz.ntmps106
 go_wp2_with fail
 go_ret
 exact ⟨by rw [HV.out]; rfl,Below.refl _ _⟩
theorem text183 (s:ByteArray) (w:World) (hs:s.size≤1048576000):Calls Tryz.prog 183 #[.string s] w (RetI (txtE s) w):=by
 obtain ⟨V,hV⟩:=gX (txtE s)
 rw [<- hV]
 unfold txtE at hV
 have C:=qH (valid_lib s w hs)
 change Hid (Calls _ _ _ _ fun e w' => e = .returned (.bool (validB s))∧w = w') at C
 obtain ⟨vb,hvb⟩:=gX ((if !validB s then (12:Int) else 0))
 obtain ⟨sb,hsb⟩:=gX ((if 1024 < s.size then (10:Int) else 0))
 rw [<- hvb,<- hsb] at hV
 have C1:=qH (fun W => bo (!validB s) 12 W)
 have C2:=qH (fun W => bo (decide ((s.size:Int) > 1024)) 10 W)
 have e2:(if decide ((s.size:Int) > 1024) = true then (10:Int) else 0) = sb:=by rw [hsb]; by_cases h:1024 < s.size <;> simp [h] <;> omega
 rw [<- hvb] at C1
 rw [e2] at C2
 have HV:=qH hV
 obtain ⟨W1,hW1⟩:=gX (w.alloc (.cells #[.int .i64 vb,.int .i64 sb] 23))
 have hb:W1.heap[w.heap.size]? = some (.cells #[.int .i64 vb,.int .i64 sb] 23 (0,0)):=by rw [hW1]; exact heap_alloc_new w _
 have C3:=qH (first46 [vb,sb] w.heap.size 2 W1 (fun j x hx => (aa hb j).trans (by
  match j,hx with
  | 0,hx => cases hx; rfl
  | 1,hx => cases hx; rfl)) (by simp))
 have HBW:=qH (show Below w.heap.size w W1 by rw [hW1]; exact (Below.refl _ _).alloc (Nat.le_refl _) _)
 have HW1:=qH hW1
 clear hV hvb hsb e2 hW1 hb
 go_enter Tryz.func183,Tryz.ntmps183
 go_wp2_with fail
 refine C.out.mono ?_
 rintro e w1 ⟨rfl,rfl⟩
 clear C
 go_wp2_with fail
 refine (C1.out _).mono ?_
 rintro e w2 ⟨rfl,rfl⟩
 clear C1
 go_wp2_with fail
 refine (C2.out _).mono ?_
 rintro e w2 ⟨rfl,rfl⟩
 clear C2
 go_wp2_with fail
 rw [<- HW1.out]
 refine C3.out.mono ?_
 rintro e w2 ⟨rfl,rfl⟩
 clear C3 HW1
 go_wp2_with fail
 go_ret
 exact ⟨by rw [HV.out]; rfl,HBW.out⟩
end Go.Proofs.YtmhhcfceikcfbaaGreat
