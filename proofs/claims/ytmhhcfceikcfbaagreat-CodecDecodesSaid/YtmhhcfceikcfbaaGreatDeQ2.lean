/- Walks: equality of the settings. -/
import Derived.Test.YtmhhcfceikcfbaaGreatDeQ1
namespace Go.Proofs.YtmhhcfceikcfbaaGreat
open Go.RowKit
set_option maxRecDepth 100000
set_option maxHeartbeats 4000000
theorem eq58:EqSl 58 lvlP 4:=by
 intro G w v u l m hv hu hG
 obtain ⟨A,c,rfl,_,hm1⟩:=hv.shape
 obtain ⟨B,d,rfl,_,hm2⟩:=hu.shape
 obtain ⟨n,hn⟩:=gX (l.length)
 obtain ⟨k,hk⟩:=gX (m.length)
 have hnn:n≤9223372036854775807:=by unfold maxLen at hm1; omega
 have hkk:k≤9223372036854775807:=by unfold maxLen at hm2; omega
 have HV:=qH hv
 have HU:=qH hu
 rw [<- hn,<- hk]
 have HN:=qH hn
 have HK:=qH hk
 clear hv hu hm1 hm2 hn hk hG
 by_cases hnk:n = k
 ·subst hnk
  go_enter Tryz.func58,Tryz.ntmps58
  go_wp2_with fail
  go_loopw [13] (fun iv wr => ∃ i:Nat,iv = .int .i64 (i:Int)∧i≤n∧Hid (l.take i = m.take i)∧Hid (Below w.heap.size w wr)) (fun iv _ => n - (intOf iv).toNat)
  case atStart => exact ⟨0,rfl,Nat.zero_le _,qH rfl,qH (Below.refl _ _)⟩
  obtain ⟨i,rfl,hin,HT,HB⟩:=hrel
  by_cases hlt:i < n
  ·have hlt':(i:Int) < (n:Int):=by omega
   obtain ⟨x,hx⟩:∃ x,l[i]? = some x:=⟨_,List.getElem?_eq_getElem (by rw [<- HN.out]; exact hlt)⟩
   obtain ⟨y,hy⟩:∃ y,m[i]? = some y:=⟨_,List.getElem?_eq_getElem (by rw [<- HK.out]; exact hlt)⟩
   obtain ⟨b1,o1,vs,rfl,_,hbw,_,hRx,hcs⟩:=HV.out.at i x hx
   obtain ⟨b2,o2,us,rfl,_,hbw2,_,hRy,hds⟩:=HU.out.at i y hy
   have hE:EltS b1 (o1 + i * 4) vs wr:=EltS.below (w:=w) hcs hbw HB.out
   have hD:EltS b2 (o2 + i * 4) us wr:=EltS.below (w:=w) hds hbw2 HB.out
   obtain ⟨x0,x1,x2,x3⟩:=x
   obtain ⟨y0,y1,y2,y3⟩:=y
   obtain ⟨rfl,_⟩:=hRx
   obtain ⟨rfl,_⟩:=hRy
   have e0:=hE 0 _ rfl
   have d0:=hD 0 _ rfl
   have e1:=hE 1 _ rfl
   have d1:=hD 1 _ rfl
   have e2:=hE 2 _ rfl
   have d2:=hD 2 _ rfl
   have e3:=hE 3 _ rfl
   have d3:=hD 3 _ rfl
   simp only [Nat.add_zero] at e0 d0
   have HX:=qH hx
   have HY:=qH hy
   clear hcs hds hx hy hE hD
   by_cases q0:x0 = y0
   ·subst q0
    by_cases q1:x1 = y1
    ·subst q1
     by_cases q2:x2 = y2
     ·subst q2
      by_cases q3:x3 = y3
      ·subst q3
       go_upto_region 6 with fail
       go_quiet (fail)
       obtain ⟨w1,hw1⟩:=gX (wr.drewN nq)
       rw [<- hw1]
       have HB1:=qH (show Below w.heap.size w w1 by rw [hw1]; exact aq HB.out nq)
       clear hw1 e0 d0 e1 d1 e2 d2 e3 d3
       go_wp2_with fail
       exact ⟨⟨i + 1,by go_num,by omega,qH (by rw [aQ HX.out,aQ HY.out,HT.out]),HB1⟩,by simp [intOf]; omega⟩
      have r3:(x3 == y3) = false:=by rw [beq_eq_false_iff_ne]; exact q3
      go_upto_region 6 with fail
      go_quiet (fail)
      obtain ⟨w1,hw1⟩:=gX (wr.drewN nq)
      rw [<- hw1]
      have HB1:=qH (show Below w.heap.size w w1 by rw [hw1]; exact aq HB.out nq)
      clear hw1 e0 d0 e1 d1 e2 d2 e3 d3
      go_wp2_with fail
      go_ret
      exact EqC.no (aJ HX.out HY.out (by intro e; cases e; exact q3 rfl)) HB1.out
     have r2:=beqS_ne q2
     have s2:=beqS_ne' q2
     go_upto_region 6 with fail
     go_quiet (fail)
     obtain ⟨w1,hw1⟩:=gX (wr.drewN nq)
     rw [<- hw1]
     have HB1:=qH (show Below w.heap.size w w1 by rw [hw1]; exact aq HB.out nq)
     clear hw1 e0 d0 e1 d1 e2 d2 e3 d3
     go_wp2_with fail
     go_ret
     exact EqC.no (aJ HX.out HY.out (by intro e; cases e; exact q2 rfl)) HB1.out
    have r1:(x1 == y1) = false:=by rw [beq_eq_false_iff_ne]; exact q1
    go_upto_region 6 with fail
    go_quiet (fail)
    obtain ⟨w1,hw1⟩:=gX (wr.drewN nq)
    rw [<- hw1]
    have HB1:=qH (show Below w.heap.size w w1 by rw [hw1]; exact aq HB.out nq)
    clear hw1 e0 d0 e1 d1 e2 d2 e3 d3
    go_wp2_with fail
    go_ret
    exact EqC.no (aJ HX.out HY.out (by intro e; cases e; exact q1 rfl)) HB1.out
   have r0:(x0 == y0) = false:=by rw [beq_eq_false_iff_ne]; exact q0
   go_upto_region 6 with fail
   go_quiet (fail)
   obtain ⟨w1,hw1⟩:=gX (wr.drewN nq)
   rw [<- hw1]
   have HB1:=qH (show Below w.heap.size w w1 by rw [hw1]; exact aq HB.out nq)
   clear hw1 e0 d0 e1 d1 e2 d2 e3 d3
   go_wp2_with fail
   go_ret
   exact EqC.no (aJ HX.out HY.out (by intro e; cases e; exact q0 rfl)) HB1.out
  have hii:i = n:=by omega
  have hlt':¬ (i:Int) < (n:Int):=by omega
  go_wp2_with fail
  go_ret
  refine EqC.yes ?_ HB.out
  have h1:=HT.out
  rw [List.take_of_length_le (by rw [hii,HN.out]; exact Nat.le_refl _),List.take_of_length_le (by rw [hii,HK.out]; exact Nat.le_refl _)] at h1
  exact h1
 have hnk':((n:Int) == (k:Int)) = false:=by rw [beq_eq_false_iff_ne]; omega
 have hnk2:¬ ((n:Int) = (k:Int)):=by omega
 go_enter Tryz.func58,Tryz.ntmps58
 go_wp2_with fail
 go_ret
 refine EqC.no (fun e => hnk ?_) (Below.refl _ _)
 subst e
 rw [HN.out,HK.out]
theorem eq60:EqSl 60 revP 3:=by
 intro G w v u l m hv hu hG
 obtain ⟨A,c,rfl,_,hm1⟩:=hv.shape
 obtain ⟨B,d,rfl,_,hm2⟩:=hu.shape
 obtain ⟨n,hn⟩:=gX (l.length)
 obtain ⟨k,hk⟩:=gX (m.length)
 have hnn:n≤9223372036854775807:=by unfold maxLen at hm1; omega
 have hkk:k≤9223372036854775807:=by unfold maxLen at hm2; omega
 have HV:=qH hv
 have HU:=qH hu
 rw [<- hn,<- hk]
 have HN:=qH hn
 have HK:=qH hk
 clear hv hu hm1 hm2 hn hk hG
 by_cases hnk:n = k
 ·subst hnk
  go_enter Tryz.func60,Tryz.ntmps60
  go_wp2_with fail
  go_loopw [13] (fun iv wr => ∃ i:Nat,iv = .int .i64 (i:Int)∧i≤n∧Hid (l.take i = m.take i)∧Hid (Below w.heap.size w wr)) (fun iv _ => n - (intOf iv).toNat)
  case atStart => exact ⟨0,rfl,Nat.zero_le _,qH rfl,qH (Below.refl _ _)⟩
  obtain ⟨i,rfl,hin,HT,HB⟩:=hrel
  by_cases hlt:i < n
  ·have hlt':(i:Int) < (n:Int):=by omega
   obtain ⟨x,hx⟩:∃ x,l[i]? = some x:=⟨_,List.getElem?_eq_getElem (by rw [<- HN.out]; exact hlt)⟩
   obtain ⟨y,hy⟩:∃ y,m[i]? = some y:=⟨_,List.getElem?_eq_getElem (by rw [<- HK.out]; exact hlt)⟩
   obtain ⟨b1,o1,vs,rfl,_,hbw,_,hRx,hcs⟩:=HV.out.at i x hx
   obtain ⟨b2,o2,us,rfl,_,hbw2,_,hRy,hds⟩:=HU.out.at i y hy
   have hE:EltS b1 (o1 + i * 3) vs wr:=EltS.below (w:=w) hcs hbw HB.out
   have hD:EltS b2 (o2 + i * 3) us wr:=EltS.below (w:=w) hds hbw2 HB.out
   obtain ⟨x0,x1,x2⟩:=x
   obtain ⟨y0,y1,y2⟩:=y
   obtain ⟨rfl,_⟩:=hRx
   obtain ⟨rfl,_⟩:=hRy
   have e0:=hE 0 _ rfl
   have d0:=hD 0 _ rfl
   have e1:=hE 1 _ rfl
   have d1:=hD 1 _ rfl
   have e2:=hE 2 _ rfl
   have d2:=hD 2 _ rfl
   simp only [Nat.add_zero] at e0 d0
   have HX:=qH hx
   have HY:=qH hy
   clear hcs hds hx hy hE hD
   by_cases q0:x0 = y0
   ·subst q0
    by_cases q1:x1 = y1
    ·subst q1
     by_cases q2:x2 = y2
     ·subst q2
      go_upto_region 6 with fail
      go_quiet (fail)
      obtain ⟨w1,hw1⟩:=gX (wr.drewN nq)
      rw [<- hw1]
      have HB1:=qH (show Below w.heap.size w w1 by rw [hw1]; exact aq HB.out nq)
      clear hw1 e0 d0 e1 d1 e2 d2
      go_wp2_with fail
      exact ⟨⟨i + 1,by go_num,by omega,qH (by rw [aQ HX.out,aQ HY.out,HT.out]),HB1⟩,by simp [intOf]; omega⟩
     have r2:(x2 == y2) = false:=by rw [beq_eq_false_iff_ne]; exact q2
     go_upto_region 6 with fail
     go_quiet (fail)
     obtain ⟨w1,hw1⟩:=gX (wr.drewN nq)
     rw [<- hw1]
     have HB1:=qH (show Below w.heap.size w w1 by rw [hw1]; exact aq HB.out nq)
     clear hw1 e0 d0 e1 d1 e2 d2
     go_wp2_with fail
     go_ret
     exact EqC.no (aJ HX.out HY.out (by intro e; cases e; exact q2 rfl)) HB1.out
    have r1:=beqS_ne q1
    have s1:=beqS_ne' q1
    go_upto_region 6 with fail
    go_quiet (fail)
    obtain ⟨w1,hw1⟩:=gX (wr.drewN nq)
    rw [<- hw1]
    have HB1:=qH (show Below w.heap.size w w1 by rw [hw1]; exact aq HB.out nq)
    clear hw1 e0 d0 e1 d1 e2 d2
    go_wp2_with fail
    go_ret
    exact EqC.no (aJ HX.out HY.out (by intro e; cases e; exact q1 rfl)) HB1.out
   have r0:(x0 == y0) = false:=by rw [beq_eq_false_iff_ne]; exact q0
   go_upto_region 6 with fail
   go_quiet (fail)
   obtain ⟨w1,hw1⟩:=gX (wr.drewN nq)
   rw [<- hw1]
   have HB1:=qH (show Below w.heap.size w w1 by rw [hw1]; exact aq HB.out nq)
   clear hw1 e0 d0 e1 d1 e2 d2
   go_wp2_with fail
   go_ret
   exact EqC.no (aJ HX.out HY.out (by intro e; cases e; exact q0 rfl)) HB1.out
  have hii:i = n:=by omega
  have hlt':¬ (i:Int) < (n:Int):=by omega
  go_wp2_with fail
  go_ret
  refine EqC.yes ?_ HB.out
  have h1:=HT.out
  rw [List.take_of_length_le (by rw [hii,HN.out]; exact Nat.le_refl _),List.take_of_length_le (by rw [hii,HK.out]; exact Nat.le_refl _)] at h1
  exact h1
 have hnk':((n:Int) == (k:Int)) = false:=by rw [beq_eq_false_iff_ne]; omega
 have hnk2:¬ ((n:Int) = (k:Int)):=by omega
 go_enter Tryz.func60,Tryz.ntmps60
 go_wp2_with fail
 go_ret
 refine EqC.no (fun e => hnk ?_) (Below.refl _ _)
 subst e
 rw [HN.out,HK.out]
theorem eq63:EqSl 63 cmtP 6:=by
 intro G w v u l m hv hu hG
 obtain ⟨A,c,rfl,_,hm1⟩:=hv.shape
 obtain ⟨B,d,rfl,_,hm2⟩:=hu.shape
 obtain ⟨n,hn⟩:=gX (l.length)
 obtain ⟨k,hk⟩:=gX (m.length)
 have hnn:n≤9223372036854775807:=by unfold maxLen at hm1; omega
 have hkk:k≤9223372036854775807:=by unfold maxLen at hm2; omega
 have HV:=qH hv
 have HU:=qH hu
 rw [<- hn,<- hk]
 have HN:=qH hn
 have HK:=qH hk
 clear hv hu hm1 hm2 hn hk hG
 by_cases hnk:n = k
 ·subst hnk
  go_enter Tryz.func63,Tryz.ntmps63
  go_wp2_with fail
  go_loopw [13] (fun iv wr => ∃ i:Nat,iv = .int .i64 (i:Int)∧i≤n∧Hid (l.take i = m.take i)∧Hid (Below w.heap.size w wr)) (fun iv _ => n - (intOf iv).toNat)
  case atStart => exact ⟨0,rfl,Nat.zero_le _,qH rfl,qH (Below.refl _ _)⟩
  obtain ⟨i,rfl,hin,HT,HB⟩:=hrel
  by_cases hlt:i < n
  ·have hlt':(i:Int) < (n:Int):=by omega
   obtain ⟨x,hx⟩:∃ x,l[i]? = some x:=⟨_,List.getElem?_eq_getElem (by rw [<- HN.out]; exact hlt)⟩
   obtain ⟨y,hy⟩:∃ y,m[i]? = some y:=⟨_,List.getElem?_eq_getElem (by rw [<- HK.out]; exact hlt)⟩
   obtain ⟨b1,o1,vs,rfl,_,hbw,_,hRx,hcs⟩:=HV.out.at i x hx
   obtain ⟨b2,o2,us,rfl,_,hbw2,_,hRy,hds⟩:=HU.out.at i y hy
   have hE:EltS b1 (o1 + i * 6) vs wr:=EltS.below (w:=w) hcs hbw HB.out
   have hD:EltS b2 (o2 + i * 6) us wr:=EltS.below (w:=w) hds hbw2 HB.out
   obtain ⟨x0,x1,x2,x3,x4,x5⟩:=x
   obtain ⟨y0,y1,y2,y3,y4,y5⟩:=y
   obtain ⟨rfl,_⟩:=hRx
   obtain ⟨rfl,_⟩:=hRy
   have e0:=hE 0 _ rfl
   have d0:=hD 0 _ rfl
   have e1:=hE 1 _ rfl
   have d1:=hD 1 _ rfl
   have e2:=hE 2 _ rfl
   have d2:=hD 2 _ rfl
   have e3:=hE 3 _ rfl
   have d3:=hD 3 _ rfl
   have e4:=hE 4 _ rfl
   have d4:=hD 4 _ rfl
   have e5:=hE 5 _ rfl
   have d5:=hD 5 _ rfl
   simp only [Nat.add_zero] at e0 d0
   have HX:=qH hx
   have HY:=qH hy
   clear hcs hds hx hy hE hD
   by_cases q0:x0 = y0
   ·subst q0
    by_cases q1:x1 = y1
    ·subst q1
     by_cases q2:x2 = y2
     ·subst q2
      by_cases q3:x3 = y3
      ·subst q3
       by_cases q4:x4 = y4
       ·subst q4
        by_cases q5:x5 = y5
        ·subst q5
         go_upto_region 6 with fail
         go_quiet (fail)
         obtain ⟨w1,hw1⟩:=gX (wr.drewN nq)
         rw [<- hw1]
         have HB1:=qH (show Below w.heap.size w w1 by rw [hw1]; exact aq HB.out nq)
         clear hw1 e0 d0 e1 d1 e2 d2 e3 d3 e4 d4 e5 d5
         go_wp2_with fail
         exact ⟨⟨i + 1,by go_num,by omega,qH (by rw [aQ HX.out,aQ HY.out,HT.out]),HB1⟩,by simp [intOf]; omega⟩
        have r5:(x5 == y5) = false:=by rw [beq_eq_false_iff_ne]; exact q5
        go_upto_region 6 with fail
        go_quiet (fail)
        obtain ⟨w1,hw1⟩:=gX (wr.drewN nq)
        rw [<- hw1]
        have HB1:=qH (show Below w.heap.size w w1 by rw [hw1]; exact aq HB.out nq)
        clear hw1 e0 d0 e1 d1 e2 d2 e3 d3 e4 d4 e5 d5
        go_wp2_with fail
        go_ret
        exact EqC.no (aJ HX.out HY.out (by intro e; cases e; exact q5 rfl)) HB1.out
       have r4:=beqS_ne q4
       have s4:=beqS_ne' q4
       go_upto_region 6 with fail
       go_quiet (fail)
       obtain ⟨w1,hw1⟩:=gX (wr.drewN nq)
       rw [<- hw1]
       have HB1:=qH (show Below w.heap.size w w1 by rw [hw1]; exact aq HB.out nq)
       clear hw1 e0 d0 e1 d1 e2 d2 e3 d3 e4 d4 e5 d5
       go_wp2_with fail
       go_ret
       exact EqC.no (aJ HX.out HY.out (by intro e; cases e; exact q4 rfl)) HB1.out
      have r3:(x3 == y3) = false:=by rw [beq_eq_false_iff_ne]; exact q3
      go_upto_region 6 with fail
      go_quiet (fail)
      obtain ⟨w1,hw1⟩:=gX (wr.drewN nq)
      rw [<- hw1]
      have HB1:=qH (show Below w.heap.size w w1 by rw [hw1]; exact aq HB.out nq)
      clear hw1 e0 d0 e1 d1 e2 d2 e3 d3 e4 d4 e5 d5
      go_wp2_with fail
      go_ret
      exact EqC.no (aJ HX.out HY.out (by intro e; cases e; exact q3 rfl)) HB1.out
     have r2:=beqS_ne q2
     have s2:=beqS_ne' q2
     go_upto_region 6 with fail
     go_quiet (fail)
     obtain ⟨w1,hw1⟩:=gX (wr.drewN nq)
     rw [<- hw1]
     have HB1:=qH (show Below w.heap.size w w1 by rw [hw1]; exact aq HB.out nq)
     clear hw1 e0 d0 e1 d1 e2 d2 e3 d3 e4 d4 e5 d5
     go_wp2_with fail
     go_ret
     exact EqC.no (aJ HX.out HY.out (by intro e; cases e; exact q2 rfl)) HB1.out
    have r1:(x1 == y1) = false:=by rw [beq_eq_false_iff_ne]; exact q1
    go_upto_region 6 with fail
    go_quiet (fail)
    obtain ⟨w1,hw1⟩:=gX (wr.drewN nq)
    rw [<- hw1]
    have HB1:=qH (show Below w.heap.size w w1 by rw [hw1]; exact aq HB.out nq)
    clear hw1 e0 d0 e1 d1 e2 d2 e3 d3 e4 d4 e5 d5
    go_wp2_with fail
    go_ret
    exact EqC.no (aJ HX.out HY.out (by intro e; cases e; exact q1 rfl)) HB1.out
   have r0:(x0 == y0) = false:=by rw [beq_eq_false_iff_ne]; exact q0
   go_upto_region 6 with fail
   go_quiet (fail)
   obtain ⟨w1,hw1⟩:=gX (wr.drewN nq)
   rw [<- hw1]
   have HB1:=qH (show Below w.heap.size w w1 by rw [hw1]; exact aq HB.out nq)
   clear hw1 e0 d0 e1 d1 e2 d2 e3 d3 e4 d4 e5 d5
   go_wp2_with fail
   go_ret
   exact EqC.no (aJ HX.out HY.out (by intro e; cases e; exact q0 rfl)) HB1.out
  have hii:i = n:=by omega
  have hlt':¬ (i:Int) < (n:Int):=by omega
  go_wp2_with fail
  go_ret
  refine EqC.yes ?_ HB.out
  have h1:=HT.out
  rw [List.take_of_length_le (by rw [hii,HN.out]; exact Nat.le_refl _),List.take_of_length_le (by rw [hii,HK.out]; exact Nat.le_refl _)] at h1
  exact h1
 have hnk':((n:Int) == (k:Int)) = false:=by rw [beq_eq_false_iff_ne]; omega
 have hnk2:¬ ((n:Int) = (k:Int)):=by omega
 go_enter Tryz.func63,Tryz.ntmps63
 go_wp2_with fail
 go_ret
 refine EqC.no (fun e => hnk ?_) (Below.refl _ _)
 subst e
 rw [HN.out,HK.out]
theorem eq64:EqSl 64 vrP 2:=by
 intro G w v u l m hv hu hG
 obtain ⟨A,c,rfl,_,hm1⟩:=hv.shape
 obtain ⟨B,d,rfl,_,hm2⟩:=hu.shape
 obtain ⟨n,hn⟩:=gX (l.length)
 obtain ⟨k,hk⟩:=gX (m.length)
 have hnn:n≤9223372036854775807:=by unfold maxLen at hm1; omega
 have hkk:k≤9223372036854775807:=by unfold maxLen at hm2; omega
 have HV:=qH hv
 have HU:=qH hu
 rw [<- hn,<- hk]
 have HN:=qH hn
 have HK:=qH hk
 clear hv hu hm1 hm2 hn hk hG
 by_cases hnk:n = k
 ·subst hnk
  go_enter Tryz.func64,Tryz.ntmps64
  go_wp2_with fail
  go_loopw [13] (fun iv wr => ∃ i:Nat,iv = .int .i64 (i:Int)∧i≤n∧Hid (l.take i = m.take i)∧Hid (Below w.heap.size w wr)) (fun iv _ => n - (intOf iv).toNat)
  case atStart => exact ⟨0,rfl,Nat.zero_le _,qH rfl,qH (Below.refl _ _)⟩
  obtain ⟨i,rfl,hin,HT,HB⟩:=hrel
  by_cases hlt:i < n
  ·have hlt':(i:Int) < (n:Int):=by omega
   obtain ⟨x,hx⟩:∃ x,l[i]? = some x:=⟨_,List.getElem?_eq_getElem (by rw [<- HN.out]; exact hlt)⟩
   obtain ⟨y,hy⟩:∃ y,m[i]? = some y:=⟨_,List.getElem?_eq_getElem (by rw [<- HK.out]; exact hlt)⟩
   obtain ⟨b1,o1,vs,rfl,_,hbw,_,hRx,hcs⟩:=HV.out.at i x hx
   obtain ⟨b2,o2,us,rfl,_,hbw2,_,hRy,hds⟩:=HU.out.at i y hy
   have hE:EltS b1 (o1 + i * 2) vs wr:=EltS.below (w:=w) hcs hbw HB.out
   have hD:EltS b2 (o2 + i * 2) us wr:=EltS.below (w:=w) hds hbw2 HB.out
   obtain ⟨x0,x1⟩:=x
   obtain ⟨y0,y1⟩:=y
   obtain ⟨rfl,_⟩:=hRx
   obtain ⟨rfl,_⟩:=hRy
   have e0:=hE 0 _ rfl
   have d0:=hD 0 _ rfl
   have e1:=hE 1 _ rfl
   have d1:=hD 1 _ rfl
   simp only [Nat.add_zero] at e0 d0
   have HX:=qH hx
   have HY:=qH hy
   clear hcs hds hx hy hE hD
   by_cases q0:x0 = y0
   ·subst q0
    by_cases q1:x1 = y1
    ·subst q1
     go_upto_region 6 with fail
     go_quiet (fail)
     obtain ⟨w1,hw1⟩:=gX (wr.drewN nq)
     rw [<- hw1]
     have HB1:=qH (show Below w.heap.size w w1 by rw [hw1]; exact aq HB.out nq)
     clear hw1 e0 d0 e1 d1
     go_wp2_with fail
     exact ⟨⟨i + 1,by go_num,by omega,qH (by rw [aQ HX.out,aQ HY.out,HT.out]),HB1⟩,by simp [intOf]; omega⟩
    have r1:=beqS_ne q1
    have s1:=beqS_ne' q1
    go_upto_region 6 with fail
    go_quiet (fail)
    obtain ⟨w1,hw1⟩:=gX (wr.drewN nq)
    rw [<- hw1]
    have HB1:=qH (show Below w.heap.size w w1 by rw [hw1]; exact aq HB.out nq)
    clear hw1 e0 d0 e1 d1
    go_wp2_with fail
    go_ret
    exact EqC.no (aJ HX.out HY.out (by intro e; cases e; exact q1 rfl)) HB1.out
   have r0:=beqS_ne q0
   have s0:=beqS_ne' q0
   go_upto_region 6 with fail
   go_quiet (fail)
   obtain ⟨w1,hw1⟩:=gX (wr.drewN nq)
   rw [<- hw1]
   have HB1:=qH (show Below w.heap.size w w1 by rw [hw1]; exact aq HB.out nq)
   clear hw1 e0 d0 e1 d1
   go_wp2_with fail
   go_ret
   exact EqC.no (aJ HX.out HY.out (by intro e; cases e; exact q0 rfl)) HB1.out
  have hii:i = n:=by omega
  have hlt':¬ (i:Int) < (n:Int):=by omega
  go_wp2_with fail
  go_ret
  refine EqC.yes ?_ HB.out
  have h1:=HT.out
  rw [List.take_of_length_le (by rw [hii,HN.out]; exact Nat.le_refl _),List.take_of_length_le (by rw [hii,HK.out]; exact Nat.le_refl _)] at h1
  exact h1
 have hnk':((n:Int) == (k:Int)) = false:=by rw [beq_eq_false_iff_ne]; omega
 have hnk2:¬ ((n:Int) = (k:Int)):=by omega
 go_enter Tryz.func64,Tryz.ntmps64
 go_wp2_with fail
 go_ret
 refine EqC.no (fun e => hnk ?_) (Below.refl _ _)
 subst e
 rw [HN.out,HK.out]
theorem eq57:EqEl 57 lstP 2:=by
 intro G w vs us x y hx hy _ _ hG
 obtain ⟨a1,rfl,_,f1⟩:=hx
 obtain ⟨c1,rfl,_,g1⟩:=hy
 obtain ⟨x0,x1⟩:=x
 obtain ⟨y0,y1⟩:=y
 have F1:=qH f1
 have G1:=qH g1
 have HG:=qH hG
 clear f1 g1 hG
 obtain ⟨N,hN⟩:=gX (w.heap.size)
 obtain ⟨W,hW⟩:=gX (((w.alloc (.cells #[.int .i64 x0,a1] 110)).alloc (.cells #[.int .i64 y0,c1] 110)))
 have hb1:W.heap[N]? = some (.cells #[.int .i64 x0,a1] 110 (0,0)):=by rw [hW,hN]; exact (Below.heap_alloc _ _ _ (by simp)).trans (heap_alloc_new _ _)
 have hb2:W.heap[N + 1]? = some (.cells #[.int .i64 y0,c1] 110 (0,0)):=by rw [hW,hN]; exact ah _ _ (by simp)
 have hB:Below w.heap.size w W:=by rw [hW]; exact ((Below.refl _ _).alloc (Nat.le_refl _) _).alloc (by simp) _
 have hn1:N < W.heap.size:=ae hb1
 have hn2:N + 1 < W.heap.size:=ae hb2
 have HW:=qH hW
 have HN:=qH hN
 have HB0:=qH hB
 have K0:=qH hb1
 have J0:=qH hb2
 clear hW hN hB hb1 hb2
 go_enter Tryz.func57,Tryz.ntmps57
 go_upto_region 1 with fail
 rw [<- HW.out,<- HN.out]
 clear HW
 have e0:=aa K0.out 0
 have d0:=aa J0.out 0
 have e1:=aa K0.out 1
 have d1:=aa J0.out 1
 by_cases q0:x0 = y0
 ·subst q0
  have C:=qH (eq58 G W _ _ _ _ (F1.out.below bH HG.out HB0.out) (G1.out.below bH HG.out HB0.out) (fun b h => Nat.lt_of_lt_of_le (HG.out b h) HB0.out.size))
  go_wp2_with fail
  refine C.out.mono ?_
  rintro e w1 ⟨r1,rfl,hr,hb⟩
  have HR1:=qH hr
  have HB1:=qH (HB0.out.trans (hb.mono HB0.out.size))
  have K1:=qH ((hb.block _ hn1).trans K0.out)
  have J1:=qH ((hb.block _ hn2).trans J0.out)
  replace hn1:=Nat.lt_of_lt_of_le hn1 hb.size
  replace hn2:=Nat.lt_of_lt_of_le hn2 hb.size
  clear C hb hr HB0 K0 J0 e0 d0 e1 d1
  cases r1
  ·go_wp2_with fail
   go_ret
   exact EqC.no (fun e => by cases e; have:=HR1.out.2 rfl; cases this) HB1.out
  go_wp2_with fail
  go_ret
  exact EqC.yes (by rw [HR1.out.1 (by trivial)]) HB1.out
 have r0:(x0 == y0) = false:=by rw [beq_eq_false_iff_ne]; exact q0
 go_wp2_with fail
 go_ret
 exact EqC.no (fun e => by cases e; first | done | exact q0 rfl) HB0.out
theorem eqf62 {α:Type} (R:Rp α) (hR:Stb R) (hone:One R) (HE:EqEl 57 R 2):∀ (G:Nat→Prop) (w:World) (v u:Value) (l m:List α),Slv R 2 w G v l→Slv R 2 w G u m→(∀ b,G b→b < w.heap.size)→Calls Tryz.prog 62 #[v,u,.func (.func 57) #[] #[]] w (EqC w (l = m)):=by
 intro G w v u l m hv hu hG
 obtain ⟨A,c,rfl,_,hm1⟩:=hv.shape
 obtain ⟨B,d,rfl,_,hm2⟩:=hu.shape
 obtain ⟨n,hn⟩:=gX (l.length)
 obtain ⟨k,hk⟩:=gX (m.length)
 have hnn:n≤9223372036854775807:=by unfold maxLen at hm1; omega
 have hkk:k≤9223372036854775807:=by unfold maxLen at hm2; omega
 have HV:=qH hv
 have HU:=qH hu
 have HG:=qH hG
 rw [<- hn,<- hk]
 have HN:=qH hn
 have HK:=qH hk
 clear hv hu hm1 hm2 hn hk hG
 by_cases hnk:n = k
 ·subst hnk
  go_enter Tryz.func62,Tryz.ntmps62
  go_wp2_with fail
  go_loopw [17] (fun iv wr => ∃ i:Nat,iv = .int .i64 (i:Int)∧i≤n∧Hid (l.take i = m.take i)∧Hid (Below w.heap.size w wr)) (fun iv _ => n - (intOf iv).toNat)
  case atStart => exact ⟨0,rfl,Nat.zero_le _,qH rfl,qH (Below.refl _ _)⟩
  obtain ⟨i,rfl,hin,HT,HB⟩:=hrel
  by_cases hlt:i < n
  ·have hlt':(i:Int) < (n:Int):=by omega
   obtain ⟨x,hx⟩:∃ x,l[i]? = some x:=⟨_,List.getElem?_eq_getElem (by rw [<- HN.out]; exact hlt)⟩
   obtain ⟨y,hy⟩:∃ y,m[i]? = some y:=⟨_,List.getElem?_eq_getElem (by rw [<- HK.out]; exact hlt)⟩
   obtain ⟨b1,o1,vs,rfl,_,hbw,hvl,hRx,hcs⟩:=HV.out.at i x hx
   obtain ⟨b2,o2,us,rfl,_,hbw2,hul,hRy,hds⟩:=HU.out.at i y hy
   have hE:EltS b1 (o1 + i * 2) vs wr:=EltS.below (w:=w) hcs hbw HB.out
   have hD:EltS b2 (o2 + i * 2) us wr:=EltS.below (w:=w) hds hbw2 HB.out
   have ho1:=hone _ _ _ _ hRx
   have ho2:=hone _ _ _ _ hRy
   have HX:=qH hx
   have HY:=qH hy
   have HRX:=qH hRx
   have HRY:=qH hRy
   clear hcs hds hx hy hRx hRy
   go_upto_region 5 with fail
   refine ac (by rfl) ?_
   simp only [List.map]
   refine sq1i (i:Int) ?_
   refine sq1p b1 (o1 + i * 2) ?_
   refine bt 110 _ rfl b1 (o1 + i * 2) vs _ rfl hE Tryz.underlying110 rfl (by rw [hvl]; exact esz110) trivial ?_
   simp only [Act.put,PutA,PutZ,PutS]
   refine au (.pointer (some ⟨wr.heap.size,0,none⟩)) (wr.alloc (.cells #[.int .i64 0,.slice none 0 0] 110)) (by go_simp) trivial ?_
   simp only [Act.put,PutA,PutZ,PutS]
   refine sq1i (i:Int) ?_
   refine as_ 110 _ _ rfl rfl wr.heap.size 110 _ vs rfl rfl (heap_alloc_new wr _) (by rw [hvl]; exact esz110) ho1 (by rw [hvl]; rfl) ?_
   intro w1 hb1 hg1
   have hq1:=bG (Nat.le_refl _) _ hg1
   have hD1:EltS b2 (o2 + i * 2) us w1:=EltS.below hD (Nat.lt_of_lt_of_le hbw2 HB.out.size) hq1
   have HB1:=qH (HB.out.trans (hq1.mono HB.out.size))
   refine ⟨trivial,?_⟩
   refine ad ?_
   obtain ⟨g1,hg1'⟩:=gX (wr.heap.size)
   have hgw:wr.heap.size < w1.heap.size:=ae hb1
   rw [<- hg1'] at hb1 hgw ⊢
   have HGW:=qH hg1'
   clear hE hD hg1 hq1 hg1' ho1
   go_upto_region 6 with fail
   refine ac (by rfl) ?_
   simp only [List.map]
   refine sq1 (.slice (some ⟨b2,o2,none⟩) n d) ?_
   refine sq1i (i:Int) ?_
   refine sq1p b2 (o2 + i * 2) ?_
   refine bt 110 _ rfl b2 (o2 + i * 2) us _ rfl hD1 Tryz.underlying110 rfl (by rw [hul]; exact esz110) trivial ?_
   simp only [Act.put,PutA,PutZ,PutS]
   refine au (.pointer (some ⟨w1.heap.size,0,none⟩)) (w1.alloc (.cells #[.int .i64 0,.slice none 0 0] 110)) (by go_simp) trivial ?_
   simp only [Act.put,PutA,PutZ,PutS]
   refine as_ 110 _ _ rfl rfl w1.heap.size 110 _ us rfl rfl (heap_alloc_new w1 _) (by rw [hul]; exact esz110) ho2 (by rw [hul]; rfl) ?_
   intro w2 hb2 hg2
   have hq2:=bG (Nat.le_refl _) _ hg2
   have hb1':=(hq2.block _ hgw).trans hb1
   have HB2:=qH (HB1.out.trans (hq2.mono HB1.out.size))
   refine ⟨trivial,?_⟩
   refine ad ?_
   obtain ⟨g2,hg2'⟩:=gX (w1.heap.size)
   rw [<- hg2'] at hb2 ⊢
   clear hD1 hg2 hq2 hg2' ho2 hb1 hgw
   have C:=qH (HE G w2 vs us x y (Rp.below hR HRX.out HG.out HB2.out) (Rp.below hR HRY.out HG.out HB2.out) hvl hul (fun b h => Nat.lt_of_lt_of_le (HG.out b h) HB2.out.size))
   clear HRX HRY HB1 HGW
   go_upto_region 7 with fail
   refine ac (by rfl) ?_
   simp only [List.map]
   refine sq1 (.func (.func 57) #[] #[]) ?_
   refine ar 110 _ rfl g1 110 vs.toArray _ rfl hb1' Tryz.underlying110 rfl (by rw [List.size_toArray,hvl]; exact esz110) trivial ?_
   simp only [Act.put,PutA,PutZ,PutS]
   refine ar 110 _ rfl g2 110 us.toArray _ rfl hb2 Tryz.underlying110 rfl (by rw [List.size_toArray,hul]; exact esz110) trivial ?_
   simp only [Act.put,PutA,PutZ,PutS]
   refine af 57 #[.agg vs.toArray,.agg us.toArray] (by go_simp) ?_
   refine Calls.mono C.out ?_
   rintro e w3 ⟨r,rfl,hr,hb3⟩
   refine ⟨_,rfl,trivial,?_⟩
   simp only [Act.put,PutA,PutZ,PutS]
   refine sq1 (.bool (!r)) ?_
   refine ad ?_
   have HB3:=qH (HB2.out.trans (hb3.mono HB2.out.size))
   have HR:=qH hr
   clear hb1' hb2 C hb3 HB2 HB hr
   cases r
   ·go_wp2_with fail
    go_ret
    exact EqC.no (aJ HX.out HY.out (fun e => by have:=HR.out.2 e; cases this)) HB3.out
   go_wp2_with fail
   exact ⟨⟨i + 1,by go_num,by omega,qH (by rw [aQ HX.out,aQ HY.out,HT.out,HR.out.1 rfl]),HB3⟩,by simp [intOf]; omega⟩
  have hii:i = n:=by omega
  have hlt':¬ (i:Int) < (n:Int):=by omega
  go_wp2_with fail
  go_ret
  refine EqC.yes ?_ HB.out
  have h1:=HT.out
  rw [List.take_of_length_le (by rw [hii,HN.out]; exact Nat.le_refl _),List.take_of_length_le (by rw [hii,HK.out]; exact Nat.le_refl _)] at h1
  exact h1
 have hnk':((n:Int) == (k:Int)) = false:=by rw [beq_eq_false_iff_ne]; omega
 have hnk2:¬ ((n:Int) = (k:Int)):=by omega
 go_enter Tryz.func62,Tryz.ntmps62
 go_wp2_with fail
 go_ret
 refine EqC.no (fun e => hnk ?_) (Below.refl _ _)
 subst e
 rw [HN.out,HK.out]
theorem eq139:EqSl 139 twoP 2:=by
 intro G w v u l m hv hu hG
 have C:=qH (eq134 G w v u l m hv hu hG)
 obtain ⟨A,c,rfl,_,_⟩:=hv.shape
 obtain ⟨B,d,rfl,_,_⟩:=hu.shape
 clear hv hu hG
 go_enter Tryz.func139,Tryz.ntmps139
 go_wp2_with fail
 refine C.out.mono ?_
 rintro e w1 ⟨b,rfl,hb,hw⟩
 have HB:=qH hb
 clear hb C
 go_wp2_with fail
 go_ret
 exact ⟨b,rfl,HB.out,hw⟩
theorem eq138:EqEl 138 styP 6:=by
 intro G w vs us x y hx hy _ _ hG
 obtain ⟨a5,rfl,_,f5⟩:=hx
 obtain ⟨c5,rfl,_,g5⟩:=hy
 obtain ⟨x0,x1,x2,x3,x4,x5⟩:=x
 obtain ⟨y0,y1,y2,y3,y4,y5⟩:=y
 have F5:=qH f5
 have G5:=qH g5
 have HG:=qH hG
 clear f5 g5 hG
 obtain ⟨N,hN⟩:=gX (w.heap.size)
 obtain ⟨W,hW⟩:=gX (((w.alloc (.cells #[.int .i64 x0,.int .i64 x1,.string x2,.int .i64 x3,.int .i64 x4,a5] 107)).alloc (.cells #[.int .i64 y0,.int .i64 y1,.string y2,.int .i64 y3,.int .i64 y4,c5] 107)))
 have hb1:W.heap[N]? = some (.cells #[.int .i64 x0,.int .i64 x1,.string x2,.int .i64 x3,.int .i64 x4,a5] 107 (0,0)):=by rw [hW,hN]; exact (Below.heap_alloc _ _ _ (by simp)).trans (heap_alloc_new _ _)
 have hb2:W.heap[N + 1]? = some (.cells #[.int .i64 y0,.int .i64 y1,.string y2,.int .i64 y3,.int .i64 y4,c5] 107 (0,0)):=by rw [hW,hN]; exact ah _ _ (by simp)
 have hB:Below w.heap.size w W:=by rw [hW]; exact ((Below.refl _ _).alloc (Nat.le_refl _) _).alloc (by simp) _
 have hn1:N < W.heap.size:=ae hb1
 have hn2:N + 1 < W.heap.size:=ae hb2
 have HW:=qH hW
 have HN:=qH hN
 have HB0:=qH hB
 have K0:=qH hb1
 have J0:=qH hb2
 clear hW hN hB hb1 hb2
 go_enter Tryz.func138,Tryz.ntmps138
 go_upto_region 1 with fail
 rw [<- HW.out,<- HN.out]
 clear HW
 have e0:=aa K0.out 0
 have d0:=aa J0.out 0
 have e1:=aa K0.out 1
 have d1:=aa J0.out 1
 have e2:=aa K0.out 2
 have d2:=aa J0.out 2
 have e3:=aa K0.out 3
 have d3:=aa J0.out 3
 have e4:=aa K0.out 4
 have d4:=aa J0.out 4
 have e5:=aa K0.out 5
 have d5:=aa J0.out 5
 by_cases q0:x0 = y0
 ·subst q0
  by_cases q1:x1 = y1
  ·subst q1
   by_cases q2:x2 = y2
   ·subst q2
    by_cases q3:x3 = y3
    ·subst q3
     by_cases q4:x4 = y4
     ·subst q4
      have C:=qH (eq139 G W _ _ _ _ (F5.out.below am HG.out HB0.out) (G5.out.below am HG.out HB0.out) (fun b h => Nat.lt_of_lt_of_le (HG.out b h) HB0.out.size))
      go_wp2_with fail
      refine C.out.mono ?_
      rintro e w1 ⟨r5,rfl,hr,hb⟩
      have HR5:=qH hr
      have HB1:=qH (HB0.out.trans (hb.mono HB0.out.size))
      have K1:=qH ((hb.block _ hn1).trans K0.out)
      have J1:=qH ((hb.block _ hn2).trans J0.out)
      replace hn1:=Nat.lt_of_lt_of_le hn1 hb.size
      replace hn2:=Nat.lt_of_lt_of_le hn2 hb.size
      clear C hb hr HB0 K0 J0 e0 d0 e1 d1 e2 d2 e3 d3 e4 d4 e5 d5
      cases r5
      ·go_wp2_with fail
       go_ret
       exact EqC.no (fun e => by cases e; have:=HR5.out.2 rfl; cases this) HB1.out
      go_wp2_with fail
      go_ret
      exact EqC.yes (by rw [HR5.out.1 (by trivial)]) HB1.out
     have r4:(x4 == y4) = false:=by rw [beq_eq_false_iff_ne]; exact q4
     go_wp2_with fail
     go_ret
     exact EqC.no (fun e => by cases e; first | done | exact q4 rfl) HB0.out
    have r3:(x3 == y3) = false:=by rw [beq_eq_false_iff_ne]; exact q3
    go_wp2_with fail
    go_ret
    exact EqC.no (fun e => by cases e; first | done | exact q3 rfl) HB0.out
   have r2:=beqS_ne q2
   have s2:=beqS_ne' q2
   go_wp2_with fail
   go_ret
   exact EqC.no (fun e => by cases e; first | done | exact q2 rfl) HB0.out
  have r1:(x1 == y1) = false:=by rw [beq_eq_false_iff_ne]; exact q1
  go_wp2_with fail
  go_ret
  exact EqC.no (fun e => by cases e; first | done | exact q1 rfl) HB0.out
 have r0:(x0 == y0) = false:=by rw [beq_eq_false_iff_ne]; exact q0
 go_wp2_with fail
 go_ret
 exact EqC.no (fun e => by cases e; first | done | exact q0 rfl) HB0.out
theorem eqf137 {α:Type} (R:Rp α) (hR:Stb R) (hone:One R) (HE:EqEl 138 R 6):∀ (G:Nat→Prop) (w:World) (v u:Value) (l m:List α),Slv R 6 w G v l→Slv R 6 w G u m→(∀ b,G b→b < w.heap.size)→Calls Tryz.prog 137 #[v,u,.func (.func 138) #[] #[]] w (EqC w (l = m)):=by
 intro G w v u l m hv hu hG
 obtain ⟨A,c,rfl,_,hm1⟩:=hv.shape
 obtain ⟨B,d,rfl,_,hm2⟩:=hu.shape
 obtain ⟨n,hn⟩:=gX (l.length)
 obtain ⟨k,hk⟩:=gX (m.length)
 have hnn:n≤9223372036854775807:=by unfold maxLen at hm1; omega
 have hkk:k≤9223372036854775807:=by unfold maxLen at hm2; omega
 have HV:=qH hv
 have HU:=qH hu
 have HG:=qH hG
 rw [<- hn,<- hk]
 have HN:=qH hn
 have HK:=qH hk
 clear hv hu hm1 hm2 hn hk hG
 by_cases hnk:n = k
 ·subst hnk
  go_enter Tryz.func137,Tryz.ntmps137
  go_wp2_with fail
  go_loopw [17] (fun iv wr => ∃ i:Nat,iv = .int .i64 (i:Int)∧i≤n∧Hid (l.take i = m.take i)∧Hid (Below w.heap.size w wr)) (fun iv _ => n - (intOf iv).toNat)
  case atStart => exact ⟨0,rfl,Nat.zero_le _,qH rfl,qH (Below.refl _ _)⟩
  obtain ⟨i,rfl,hin,HT,HB⟩:=hrel
  by_cases hlt:i < n
  ·have hlt':(i:Int) < (n:Int):=by omega
   obtain ⟨x,hx⟩:∃ x,l[i]? = some x:=⟨_,List.getElem?_eq_getElem (by rw [<- HN.out]; exact hlt)⟩
   obtain ⟨y,hy⟩:∃ y,m[i]? = some y:=⟨_,List.getElem?_eq_getElem (by rw [<- HK.out]; exact hlt)⟩
   obtain ⟨b1,o1,vs,rfl,_,hbw,hvl,hRx,hcs⟩:=HV.out.at i x hx
   obtain ⟨b2,o2,us,rfl,_,hbw2,hul,hRy,hds⟩:=HU.out.at i y hy
   have hE:EltS b1 (o1 + i * 6) vs wr:=EltS.below (w:=w) hcs hbw HB.out
   have hD:EltS b2 (o2 + i * 6) us wr:=EltS.below (w:=w) hds hbw2 HB.out
   have ho1:=hone _ _ _ _ hRx
   have ho2:=hone _ _ _ _ hRy
   have HX:=qH hx
   have HY:=qH hy
   have HRX:=qH hRx
   have HRY:=qH hRy
   clear hcs hds hx hy hRx hRy
   go_upto_region 5 with fail
   refine ac (by rfl) ?_
   simp only [List.map]
   refine sq1i (i:Int) ?_
   refine sq1p b1 (o1 + i * 6) ?_
   refine bt 107 _ rfl b1 (o1 + i * 6) vs _ rfl hE Tryz.underlying107 rfl (by rw [hvl]; exact esz107) trivial ?_
   simp only [Act.put,PutA,PutZ,PutS]
   refine au (.pointer (some ⟨wr.heap.size,0,none⟩)) (wr.alloc (.cells #[.int .i64 0,.int .i64 0,.string ⟨#[]⟩,.int .i64 0,.int .i64 0,.slice none 0 0] 107)) (by go_simp) trivial ?_
   simp only [Act.put,PutA,PutZ,PutS]
   refine sq1i (i:Int) ?_
   refine as_ 107 _ _ rfl rfl wr.heap.size 107 _ vs rfl rfl (heap_alloc_new wr _) (by rw [hvl]; exact esz107) ho1 (by rw [hvl]; rfl) ?_
   intro w1 hb1 hg1
   have hq1:=bG (Nat.le_refl _) _ hg1
   have hD1:EltS b2 (o2 + i * 6) us w1:=EltS.below hD (Nat.lt_of_lt_of_le hbw2 HB.out.size) hq1
   have HB1:=qH (HB.out.trans (hq1.mono HB.out.size))
   refine ⟨trivial,?_⟩
   refine ad ?_
   obtain ⟨g1,hg1'⟩:=gX (wr.heap.size)
   have hgw:wr.heap.size < w1.heap.size:=ae hb1
   rw [<- hg1'] at hb1 hgw ⊢
   have HGW:=qH hg1'
   clear hE hD hg1 hq1 hg1' ho1
   go_upto_region 6 with fail
   refine ac (by rfl) ?_
   simp only [List.map]
   refine sq1 (.slice (some ⟨b2,o2,none⟩) n d) ?_
   refine sq1i (i:Int) ?_
   refine sq1p b2 (o2 + i * 6) ?_
   refine bt 107 _ rfl b2 (o2 + i * 6) us _ rfl hD1 Tryz.underlying107 rfl (by rw [hul]; exact esz107) trivial ?_
   simp only [Act.put,PutA,PutZ,PutS]
   refine au (.pointer (some ⟨w1.heap.size,0,none⟩)) (w1.alloc (.cells #[.int .i64 0,.int .i64 0,.string ⟨#[]⟩,.int .i64 0,.int .i64 0,.slice none 0 0] 107)) (by go_simp) trivial ?_
   simp only [Act.put,PutA,PutZ,PutS]
   refine as_ 107 _ _ rfl rfl w1.heap.size 107 _ us rfl rfl (heap_alloc_new w1 _) (by rw [hul]; exact esz107) ho2 (by rw [hul]; rfl) ?_
   intro w2 hb2 hg2
   have hq2:=bG (Nat.le_refl _) _ hg2
   have hb1':=(hq2.block _ hgw).trans hb1
   have HB2:=qH (HB1.out.trans (hq2.mono HB1.out.size))
   refine ⟨trivial,?_⟩
   refine ad ?_
   obtain ⟨g2,hg2'⟩:=gX (w1.heap.size)
   rw [<- hg2'] at hb2 ⊢
   clear hD1 hg2 hq2 hg2' ho2 hb1 hgw
   have C:=qH (HE G w2 vs us x y (Rp.below hR HRX.out HG.out HB2.out) (Rp.below hR HRY.out HG.out HB2.out) hvl hul (fun b h => Nat.lt_of_lt_of_le (HG.out b h) HB2.out.size))
   clear HRX HRY HB1 HGW
   go_upto_region 7 with fail
   refine ac (by rfl) ?_
   simp only [List.map]
   refine sq1 (.func (.func 138) #[] #[]) ?_
   refine ar 107 _ rfl g1 107 vs.toArray _ rfl hb1' Tryz.underlying107 rfl (by rw [List.size_toArray,hvl]; exact esz107) trivial ?_
   simp only [Act.put,PutA,PutZ,PutS]
   refine ar 107 _ rfl g2 107 us.toArray _ rfl hb2 Tryz.underlying107 rfl (by rw [List.size_toArray,hul]; exact esz107) trivial ?_
   simp only [Act.put,PutA,PutZ,PutS]
   refine af 138 #[.agg vs.toArray,.agg us.toArray] (by go_simp) ?_
   refine Calls.mono C.out ?_
   rintro e w3 ⟨r,rfl,hr,hb3⟩
   refine ⟨_,rfl,trivial,?_⟩
   simp only [Act.put,PutA,PutZ,PutS]
   refine sq1 (.bool (!r)) ?_
   refine ad ?_
   have HB3:=qH (HB2.out.trans (hb3.mono HB2.out.size))
   have HR:=qH hr
   clear hb1' hb2 C hb3 HB2 HB hr
   cases r
   ·go_wp2_with fail
    go_ret
    exact EqC.no (aJ HX.out HY.out (fun e => by have:=HR.out.2 e; cases this)) HB3.out
   go_wp2_with fail
   exact ⟨⟨i + 1,by go_num,by omega,qH (by rw [aQ HX.out,aQ HY.out,HT.out,HR.out.1 rfl]),HB3⟩,by simp [intOf]; omega⟩
  have hii:i = n:=by omega
  have hlt':¬ (i:Int) < (n:Int):=by omega
  go_wp2_with fail
  go_ret
  refine EqC.yes ?_ HB.out
  have h1:=HT.out
  rw [List.take_of_length_le (by rw [hii,HN.out]; exact Nat.le_refl _),List.take_of_length_le (by rw [hii,HK.out]; exact Nat.le_refl _)] at h1
  exact h1
 have hnk':((n:Int) == (k:Int)) = false:=by rw [beq_eq_false_iff_ne]; omega
 have hnk2:¬ ((n:Int) = (k:Int)):=by omega
 go_enter Tryz.func137,Tryz.ntmps137
 go_wp2_with fail
 go_ret
 refine EqC.no (fun e => hnk ?_) (Below.refl _ _)
 subst e
 rw [HN.out,HK.out]
theorem eq61:EqSl 61 styP 6:=by
 intro G w v u l m hv hu hG
 have C:=qH (eqf137 styP aF one_sty eq138 G w v u l m hv hu hG)
 obtain ⟨A,c,rfl,_,_⟩:=hv.shape
 obtain ⟨B,d,rfl,_,_⟩:=hu.shape
 clear hv hu hG
 go_enter Tryz.func61,Tryz.ntmps61
 go_wp2_with fail
 refine C.out.mono ?_
 rintro e w1 ⟨b,rfl,hb,hw⟩
 have HB:=qH hb
 clear hb C
 go_wp2_with fail
 go_ret
 exact ⟨b,rfl,HB.out,hw⟩
end Go.Proofs.YtmhhcfceikcfbaaGreat
