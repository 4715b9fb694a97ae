/- Walks: the form of an item checked. -/
import Derived.Test.YtmhhcfceikcfbaaGreatDeM3
namespace Go.Proofs.YtmhhcfceikcfbaaGreat
open Go.RowKit
set_option maxRecDepth 100000
set_option maxHeartbeats 4000000
def formT (k c i:Int) (s:ByteArray) (fn rn:Nat):Int :=
 let start:=(k == 8) && (c == 1)
 let worded:=(k == 1) || (k == 5) || start
 let named:=(k == 6) || (k == 7) || (k == 8)
 let code:=if k = 4 then inB c 1 3 else if k = 6 then inB c 1 2 else if k = 8 then inB c 1 4 else true
 let coded:=(k == 4) || (k == 6) || (k == 8)
 if (!(inB k 1 8) || !code) = true then 3 else
 if ((!coded && c != 0) || (!named && i != 0) || (!worded && decide (0 < s.size)) || (k != 6 && decide (0 < fn)) || (k != 7 && decide (0 < rn))) = true then 15 else
 if validB s = false then 12 else if (((k == 1) || (k == 5)) && decide (s.size = 0)) = true then 11 else if ((k == 5) && decide (1024 < s.size)) = true then 10 else if (start && !(nameB s)) = true then 13 else 0
theorem size_list (s:ByteArray):s.toList.length = s.size:=by
 rw [ByteArray.toList_eq,Array.length_toList]
 rfl
theorem bj {s:ByteArray}:(s.toList == ([]:List UInt8)) = decide (s.size = 0):=by
 rw [Bool.eq_iff_iff,beq_iff_eq,decide_eq_true_iff,<- List.length_eq_zero_iff,size_list]
theorem form189 (k c i:Int) (s:ByteArray) (h0 h1 h2 h3 h4:Value) (fA rA:Option Addr) (fn fc rn rc:Nat) (w:World) (hs:s.size≤1048576000):Calls Tryz.prog 189 #[.agg #[.int .i64 k,.int .i64 c,.int .i64 i,.string s,h0,h1,h2,h3,h4,.slice fA fn fc,.slice rA rn rc]] w (RetI (formT k c i s fn rn) w):=by
 obtain ⟨V,hV⟩:=gX (formT k c i s fn rn)
 rw [<- hV]
 unfold formT at hV
 simp only at hV
 obtain ⟨g,hg⟩:=gX (w.heap.size)
 obtain ⟨W,hW⟩:=gX (w.alloc (.cells #[.int .i64 k,.int .i64 c,.int .i64 i,.string s,h0,h1,h2,h3,h4,.slice fA fn fc,.slice rA rn rc] 53))
 have hk:W.heap[g]? = some (.cells #[.int .i64 k,.int .i64 c,.int .i64 i,.string s,h0,h1,h2,h3,h4,.slice fA fn fc,.slice rA rn rc] 53 (0,0)):=by rw [hW]; exact ah _ _ hg
 have hB:Below w.heap.size w W:=by rw [hW]; exact ag w _
 have HW:=qH hW
 have HG:=qH hg
 have Hk:=qH hk
 have HB:=qH hB
 obtain ⟨st,hst⟩:=gX (((k == 8) && (c == 1)))
 obtain ⟨wd,hwd⟩:=gX (((k == 1) || (k == 5) || st))
 obtain ⟨nm,hnm⟩:=gX (((k == 6) || (k == 7) || (k == 8)))
 obtain ⟨cd,hcd⟩:=gX ((if k = 4 then inB c 1 3 else if k = 6 then inB c 1 2 else if k = 8 then inB c 1 4 else true))
 obtain ⟨co,hco⟩:=gX (((k == 4) || (k == 6) || (k == 8)))
 rw [<- hst,<- hwd,<- hnm,<- hcd,<- hco] at hV
 have HS:=qH hV
 have HST:=qH hst
 have HWD:=qH hwd
 have HNM:=qH hnm
 have HCD:=qH hcd
 have HCO:=qH hco
 clear hV hst hwd hnm hcd hco hg hW hk hB
 go_enter Tryz.func189,Tryz.ntmps189
 go_upto_region 1 with fail
 rw [<- HW.out,<- HG.out]
 clear HW HG
 go_cut [3] from 8 to 15 (fun bv wr => bv = .bool st∧W = wr)
 case first =>
  have z0:=aa Hk.out 0
  have z1:=aa Hk.out 1
  by_cases q8:k = 8
  ·have f8:(k == 8) = true:=by simp [q8]
   by_cases c1:c = 1
   ·have e1:(c == 1) = true:=by simp [c1]
    have dF:=qH (show st = true by rw [HST.out]; simp [q8,c1])
    clear HS
    go_wp2_with fail
    go_meet
    exact ⟨by rw [dF.out],rfl⟩
   have e1:(c == 1) = false:=by simp [c1]
   have dF:=qH (show st = false by rw [HST.out]; simp [c1])
   clear HS
   go_wp2_with fail
   go_meet
   exact ⟨by rw [dF.out],rfl⟩
  have f8:(k == 8) = false:=by simp [q8]
  have dF:=qH (show st = false by rw [HST.out]; simp [q8])
  clear HS
  go_wp2_with fail
  go_meet
  exact ⟨by rw [dF.out],rfl⟩
 obtain ⟨rfl,rfl⟩:=hcut
 go_upto_region 2 with fail
 go_cut [4] from 16 to 26 (fun bv wr => bv = .bool wd∧W = wr)
 case first =>
  have z0:=aa Hk.out 0
  by_cases q1:k = 1
  ·have f1:(k == 1) = true:=by simp [q1]
   have dF:=qH (show wd = true by rw [HWD.out]; simp [q1])
   clear HS
   go_wp2_with fail
   go_meet
   exact ⟨by rw [dF.out],rfl⟩
  have f1:(k == 1) = false:=by simp [q1]
  by_cases q5:k = 5
  ·have f5:(k == 5) = true:=by simp [q5]
   have dF:=qH (show wd = true by rw [HWD.out]; simp [q5])
   clear HS
   go_wp2_with fail
   go_meet
   exact ⟨by rw [dF.out],rfl⟩
  have f5:(k == 5) = false:=by simp [q5]
  have dF:=qH (show wd = st by rw [HWD.out]; simp [q1,q5])
  clear HS
  go_wp2_with fail
  go_meet
  exact ⟨by rw [dF.out],rfl⟩
 obtain ⟨rfl,rfl⟩:=hcut
 go_upto_region 3 with fail
 go_cut [5] from 27 to 39 (fun bv wr => bv = .bool nm∧W = wr)
 case first =>
  have z0:=aa Hk.out 0
  by_cases q6:k = 6
  ·have f6:(k == 6) = true:=by simp [q6]
   have dF:=qH (show nm = true by rw [HNM.out]; simp [q6])
   clear HS
   go_wp2_with fail
   go_meet
   exact ⟨by rw [dF.out],rfl⟩
  have f6:(k == 6) = false:=by simp [q6]
  by_cases q7:k = 7
  ·have f7:(k == 7) = true:=by simp [q7]
   have dF:=qH (show nm = true by rw [HNM.out]; simp [q7])
   clear HS
   go_wp2_with fail
   go_meet
   exact ⟨by rw [dF.out],rfl⟩
  have f7:(k == 7) = false:=by simp [q7]
  by_cases q8:k = 8
  ·have f8:(k == 8) = true:=by simp [q8]
   have dF:=qH (show nm = true by rw [HNM.out]; simp [q8])
   clear HS
   go_wp2_with fail
   go_meet
   exact ⟨by rw [dF.out],rfl⟩
  have f8:(k == 8) = false:=by simp [q8]
  have dF:=qH (show nm = false by rw [HNM.out]; simp [q6,q7,q8])
  clear HS
  go_wp2_with fail
  go_meet
  exact ⟨by rw [dF.out],rfl⟩
 obtain ⟨rfl,rfl⟩:=hcut
 have z0:=aa Hk.out 0
 go_upto_block 0 with fail
 clear z0
 go_cut [6] from 42 to 56 (fun bv wr => bv = .bool cd∧W = wr)
 case first =>
  have z0:=aa Hk.out 0
  have z1:=aa Hk.out 1
  by_cases q4:k = 4
  ·have f4:(k == 4) = true:=by simp [q4]
   have dF:=qH (show cd = inB c 1 3 by rw [HCD.out]; simp [q4])
   clear HS q4
   go_wp2_with fail
   refine (in107 c 1 3 _).mono ?_
   rintro e w1 ⟨rfl,rfl⟩
   go_wp2_with fail
   go_meet
   exact ⟨by rw [dF.out]; rfl,rfl⟩
  have f4:(k == 4) = false:=by simp [q4]
  by_cases q6:k = 6
  ·have f6:(k == 6) = true:=by simp [q6]
   have dF:=qH (show cd = inB c 1 2 by rw [HCD.out]; simp [q6])
   clear HS q6
   go_wp2_with fail
   refine (in107 c 1 2 _).mono ?_
   rintro e w1 ⟨rfl,rfl⟩
   go_wp2_with fail
   go_meet
   exact ⟨by rw [dF.out]; rfl,rfl⟩
  have f6:(k == 6) = false:=by simp [q6]
  by_cases q8:k = 8
  ·have f8:(k == 8) = true:=by simp [q8]
   have dF:=qH (show cd = inB c 1 4 by rw [HCD.out]; simp [q8])
   clear HS q8
   go_wp2_with fail
   refine (in107 c 1 4 _).mono ?_
   rintro e w1 ⟨rfl,rfl⟩
   go_wp2_with fail
   go_meet
   exact ⟨by rw [dF.out]; rfl,rfl⟩
  have f8:(k == 8) = false:=by simp [q8]
  have dF:=qH (show cd = true by rw [HCD.out]; simp [q4,q6,q8])
  clear HS
  go_wp2_with fail
  go_meet
  exact ⟨by rw [dF.out],rfl⟩
 obtain ⟨rfl,rfl⟩:=hcut
 go_upto_region 12 with fail
 go_cut [7] from 57 to 69 (fun bv wr => bv = .bool co∧W = wr)
 case first =>
  have z0:=aa Hk.out 0
  by_cases q4:k = 4
  ·have f4:(k == 4) = true:=by simp [q4]
   have dF:=qH (show co = true by rw [HCO.out]; simp [q4])
   clear HS
   go_wp2_with fail
   go_meet
   exact ⟨by rw [dF.out],rfl⟩
  have f4:(k == 4) = false:=by simp [q4]
  by_cases q6:k = 6
  ·have f6:(k == 6) = true:=by simp [q6]
   have dF:=qH (show co = true by rw [HCO.out]; simp [q6])
   clear HS
   go_wp2_with fail
   go_meet
   exact ⟨by rw [dF.out],rfl⟩
  have f6:(k == 6) = false:=by simp [q6]
  by_cases q8:k = 8
  ·have f8:(k == 8) = true:=by simp [q8]
   have dF:=qH (show co = true by rw [HCO.out]; simp [q8])
   clear HS
   go_wp2_with fail
   go_meet
   exact ⟨by rw [dF.out],rfl⟩
  have f8:(k == 8) = false:=by simp [q8]
  have dF:=qH (show co = false by rw [HCO.out]; simp [q4,q6,q8])
  clear HS
  go_wp2_with fail
  go_meet
  exact ⟨by rw [dF.out],rfl⟩
 obtain ⟨rfl,rfl⟩:=hcut
 obtain ⟨qa,hqa⟩:=gX ((!(inB k 1 8) || !cd))
 rw [<- hqa] at HS
 have HQ:=qH hqa
 clear hqa
 go_upto_region 13 with fail
 go_cut [70] from 71 to 78 (fun bv wr => bv = .bool qa∧W = wr)
 case first =>
  obtain ⟨ib,hib⟩:=gX (inB k 1 8)
  have C:Hid (∀ W,Calls Tryz.prog 107 #[.int .i64 k,.int .i64 1,.int .i64 8] W fun e w' => e = .returned (.bool ib)∧W = w'):=qH (fun W => by rw [hib]; exact in107 k 1 8 W)
  have z0:=aa Hk.out 0
  go_wp2_with fail
  refine (C.out _).mono ?_
  rintro e w1 ⟨rfl,rfl⟩
  have HI:=qH (show qa = (!ib || !cd) by rw [HQ.out,hib])
  clear hib C HS
  cases ib
  ·have dF:=qH (show qa = true by rw [HI.out]; rfl)
   go_wp2_with fail
   go_meet
   exact ⟨by rw [dF.out],rfl⟩
  have dF:=qH (show qa = !cd by rw [HI.out]; rfl)
  go_wp2_with fail
  go_meet
  exact ⟨by rw [dF.out],rfl⟩
 obtain ⟨rfl,rfl⟩:=hcut
 clear HQ
 cases qa
 case true =>
  have HF:=qH (show V = 3 from HS.out.trans (if_pos rfl))
  clear HS
  go_wp2_with fail
  go_ret
  exact ⟨by rw [HF.out]; rfl,HB.out⟩
 replace HS:=qH (show V = _ from HS.out.trans (if_neg (by decide)))
 obtain ⟨qb,hqb⟩:=gX (((!co && c != 0) || (!nm && i != 0) || (!wd && decide (0 < s.size)) || (k != 6 && decide (0 < fn)) || (k != 7 && decide (0 < rn))))
 rw [<- hqb] at HS
 have HQ:=qH hqb
 clear hqb
 go_upto_region 15 with fail
 go_cut [79] from 80 to 126 (fun bv wr => bv = .bool qb∧W = wr)
 case first =>
  have z0:=aa Hk.out 0
  have z1:=aa Hk.out 1
  have z2:=aa Hk.out 2
  have z3:=aa Hk.out 3
  have z9:=aa Hk.out 9
  have z10:=aa Hk.out 10
  clear HS
  by_cases hh0:co = true
  ·have e0:co = true:=by simpa using hh0
   subst e0
   by_cases hh1:nm = true
   ·have e1:nm = true:=by simpa using hh1
    subst e1
    by_cases hh2:wd = true
    ·have e2:wd = true:=by simpa using hh2
     subst e2
     by_cases kk3:k = 6
     ·have f6:(k == 6) = true:=by simp [kk3]
      have f6':(k != 6) = false:=by simp [kk3]
      by_cases kk4:k = 7
      ·have f7:(k == 7) = true:=by simp [kk4]
       have f7':(k != 7) = false:=by simp [kk4]
       exact absurd (kk3.symm.trans kk4) (by decide)
      have hh4:=kk4
      have f7:(k == 7) = false:=by simp [hh4]
      have f7':(k != 7) = true:=by simp [hh4]
      by_cases p4:rn = 0
      ·have g9:decide ((0:Int) < (rn:Int)) = false:=by simp; omega
       have g10:decide (0 < rn) = false:=by simp; omega
       have dF:=qH (show qb = false by rw [HQ.out]; simp [kk3,p4])
       clear HQ kk3 p4
       go_wp2_with fail
       go_meet
       exact ⟨by rw [dF.out],rfl⟩
      have g9:decide ((0:Int) < (rn:Int)) = true:=by simp; omega
      have g10:decide (0 < rn) = true:=by simp; omega
      have dF:=qH (show qb = true by rw [HQ.out]; simp [kk3,hh4,Nat.pos_of_ne_zero p4])
      clear HQ kk3
      go_wp2_with fail
      go_meet
      exact ⟨by rw [dF.out],rfl⟩
     have hh3:=kk3
     have f6:(k == 6) = false:=by simp [hh3]
     have f6':(k != 6) = true:=by simp [hh3]
     by_cases p3:fn = 0
     ·have g7:decide ((0:Int) < (fn:Int)) = false:=by simp; omega
      have g8:decide (0 < fn) = false:=by simp; omega
      by_cases kk4:k = 7
      ·have f7:(k == 7) = true:=by simp [kk4]
       have f7':(k != 7) = false:=by simp [kk4]
       have dF:=qH (show qb = false by rw [HQ.out]; simp [hh3,p3,kk4])
       clear HQ p3 kk4
       go_wp2_with fail
       go_meet
       exact ⟨by rw [dF.out],rfl⟩
      have hh4:=kk4
      have f7:(k == 7) = false:=by simp [hh4]
      have f7':(k != 7) = true:=by simp [hh4]
      by_cases p4:rn = 0
      ·have g9:decide ((0:Int) < (rn:Int)) = false:=by simp; omega
       have g10:decide (0 < rn) = false:=by simp; omega
       have dF:=qH (show qb = false by rw [HQ.out]; simp [hh3,p3,hh4,p4])
       clear HQ p3 p4
       go_wp2_with fail
       go_meet
       exact ⟨by rw [dF.out],rfl⟩
      have g9:decide ((0:Int) < (rn:Int)) = true:=by simp; omega
      have g10:decide (0 < rn) = true:=by simp; omega
      have dF:=qH (show qb = true by rw [HQ.out]; simp [hh3,p3,hh4,Nat.pos_of_ne_zero p4])
      clear HQ p3
      go_wp2_with fail
      go_meet
      exact ⟨by rw [dF.out],rfl⟩
     have g7:decide ((0:Int) < (fn:Int)) = true:=by simp; omega
     have g8:decide (0 < fn) = true:=by simp; omega
     have dF:=qH (show qb = true by rw [HQ.out]; simp [hh3,Nat.pos_of_ne_zero p3])
     clear HQ
     go_wp2_with fail
     go_meet
     exact ⟨by rw [dF.out],rfl⟩
    have e2:wd = false:=by simpa using hh2
    subst e2
    by_cases p2:s.size = 0
    ·have g5:(s.toList == []) = true:=by rw [bj]; simp [p2]
     have g6:(s.toList != []) = false:=by unfold bne; rw [bj]; simp [p2]
     by_cases kk3:k = 6
     ·have f6:(k == 6) = true:=by simp [kk3]
      have f6':(k != 6) = false:=by simp [kk3]
      by_cases kk4:k = 7
      ·have f7:(k == 7) = true:=by simp [kk4]
       have f7':(k != 7) = false:=by simp [kk4]
       exact absurd (kk3.symm.trans kk4) (by decide)
      have hh4:=kk4
      have f7:(k == 7) = false:=by simp [hh4]
      have f7':(k != 7) = true:=by simp [hh4]
      by_cases p4:rn = 0
      ·have g9:decide ((0:Int) < (rn:Int)) = false:=by simp; omega
       have g10:decide (0 < rn) = false:=by simp; omega
       have dF:=qH (show qb = false by rw [HQ.out]; simp [p2,kk3,hh4,p4])
       clear HQ p2 kk3 p4
       go_wp2_with fail
       go_meet
       exact ⟨by rw [dF.out],rfl⟩
      have g9:decide ((0:Int) < (rn:Int)) = true:=by simp; omega
      have g10:decide (0 < rn) = true:=by simp; omega
      have dF:=qH (show qb = true by rw [HQ.out]; simp [p2,kk3,hh4,Nat.pos_of_ne_zero p4])
      clear HQ p2 kk3
      go_wp2_with fail
      go_meet
      exact ⟨by rw [dF.out],rfl⟩
     have hh3:=kk3
     have f6:(k == 6) = false:=by simp [hh3]
     have f6':(k != 6) = true:=by simp [hh3]
     by_cases p3:fn = 0
     ·have g7:decide ((0:Int) < (fn:Int)) = false:=by simp; omega
      have g8:decide (0 < fn) = false:=by simp; omega
      by_cases kk4:k = 7
      ·have f7:(k == 7) = true:=by simp [kk4]
       have f7':(k != 7) = false:=by simp [kk4]
       have dF:=qH (show qb = false by rw [HQ.out]; simp [p2,hh3,p3,kk4])
       clear HQ p2 p3 kk4
       go_wp2_with fail
       go_meet
       exact ⟨by rw [dF.out],rfl⟩
      have hh4:=kk4
      have f7:(k == 7) = false:=by simp [hh4]
      have f7':(k != 7) = true:=by simp [hh4]
      by_cases p4:rn = 0
      ·have g9:decide ((0:Int) < (rn:Int)) = false:=by simp; omega
       have g10:decide (0 < rn) = false:=by simp; omega
       have dF:=qH (show qb = false by rw [HQ.out]; simp [p2,hh3,p3,hh4,p4])
       clear HQ p2 p3 p4
       go_wp2_with fail
       go_meet
       exact ⟨by rw [dF.out],rfl⟩
      have g9:decide ((0:Int) < (rn:Int)) = true:=by simp; omega
      have g10:decide (0 < rn) = true:=by simp; omega
      have dF:=qH (show qb = true by rw [HQ.out]; simp [p2,hh3,p3,hh4,Nat.pos_of_ne_zero p4])
      clear HQ p2 p3
      go_wp2_with fail
      go_meet
      exact ⟨by rw [dF.out],rfl⟩
     have g7:decide ((0:Int) < (fn:Int)) = true:=by simp; omega
     have g8:decide (0 < fn) = true:=by simp; omega
     have dF:=qH (show qb = true by rw [HQ.out]; simp [p2,hh3,Nat.pos_of_ne_zero p3])
     clear HQ p2
     go_wp2_with fail
     go_meet
     exact ⟨by rw [dF.out],rfl⟩
    have g5:(s.toList == []) = false:=by rw [bj]; simp [p2]
    have g6:(s.toList != []) = true:=by unfold bne; rw [bj]; simp [p2]
    have dF:=qH (show qb = true by rw [HQ.out]; simp [Nat.pos_of_ne_zero p2])
    clear HQ
    go_wp2_with fail
    go_meet
    exact ⟨by rw [dF.out],rfl⟩
   have e1:nm = false:=by simpa using hh1
   subst e1
   by_cases p1:i = 0
   ·have g3:(i == 0) = true:=by simp [p1]
    have g4:(i != 0) = false:=by simp [p1]
    by_cases hh2:wd = true
    ·have e2:wd = true:=by simpa using hh2
     subst e2
     by_cases kk3:k = 6
     ·have f6:(k == 6) = true:=by simp [kk3]
      have f6':(k != 6) = false:=by simp [kk3]
      by_cases kk4:k = 7
      ·have f7:(k == 7) = true:=by simp [kk4]
       have f7':(k != 7) = false:=by simp [kk4]
       exact absurd (kk3.symm.trans kk4) (by decide)
      have hh4:=kk4
      have f7:(k == 7) = false:=by simp [hh4]
      have f7':(k != 7) = true:=by simp [hh4]
      by_cases p4:rn = 0
      ·have g9:decide ((0:Int) < (rn:Int)) = false:=by simp; omega
       have g10:decide (0 < rn) = false:=by simp; omega
       have dF:=qH (show qb = false by rw [HQ.out]; simp [p1,kk3,hh4,p4])
       clear HQ p1 kk3 p4
       go_wp2_with fail
       go_meet
       exact ⟨by rw [dF.out],rfl⟩
      have g9:decide ((0:Int) < (rn:Int)) = true:=by simp; omega
      have g10:decide (0 < rn) = true:=by simp; omega
      have dF:=qH (show qb = true by rw [HQ.out]; simp [p1,kk3,hh4,Nat.pos_of_ne_zero p4])
      clear HQ p1 kk3
      go_wp2_with fail
      go_meet
      exact ⟨by rw [dF.out],rfl⟩
     have hh3:=kk3
     have f6:(k == 6) = false:=by simp [hh3]
     have f6':(k != 6) = true:=by simp [hh3]
     by_cases p3:fn = 0
     ·have g7:decide ((0:Int) < (fn:Int)) = false:=by simp; omega
      have g8:decide (0 < fn) = false:=by simp; omega
      by_cases kk4:k = 7
      ·have f7:(k == 7) = true:=by simp [kk4]
       have f7':(k != 7) = false:=by simp [kk4]
       have dF:=qH (show qb = false by rw [HQ.out]; simp [p1,hh3,p3,kk4])
       clear HQ p1 p3 kk4
       go_wp2_with fail
       go_meet
       exact ⟨by rw [dF.out],rfl⟩
      have hh4:=kk4
      have f7:(k == 7) = false:=by simp [hh4]
      have f7':(k != 7) = true:=by simp [hh4]
      by_cases p4:rn = 0
      ·have g9:decide ((0:Int) < (rn:Int)) = false:=by simp; omega
       have g10:decide (0 < rn) = false:=by simp; omega
       have dF:=qH (show qb = false by rw [HQ.out]; simp [p1,hh3,p3,hh4,p4])
       clear HQ p1 p3 p4
       go_wp2_with fail
       go_meet
       exact ⟨by rw [dF.out],rfl⟩
      have g9:decide ((0:Int) < (rn:Int)) = true:=by simp; omega
      have g10:decide (0 < rn) = true:=by simp; omega
      have dF:=qH (show qb = true by rw [HQ.out]; simp [p1,hh3,p3,hh4,Nat.pos_of_ne_zero p4])
      clear HQ p1 p3
      go_wp2_with fail
      go_meet
      exact ⟨by rw [dF.out],rfl⟩
     have g7:decide ((0:Int) < (fn:Int)) = true:=by simp; omega
     have g8:decide (0 < fn) = true:=by simp; omega
     have dF:=qH (show qb = true by rw [HQ.out]; simp [p1,hh3,Nat.pos_of_ne_zero p3])
     clear HQ p1
     go_wp2_with fail
     go_meet
     exact ⟨by rw [dF.out],rfl⟩
    have e2:wd = false:=by simpa using hh2
    subst e2
    by_cases p2:s.size = 0
    ·have g5:(s.toList == []) = true:=by rw [bj]; simp [p2]
     have g6:(s.toList != []) = false:=by unfold bne; rw [bj]; simp [p2]
     by_cases kk3:k = 6
     ·have f6:(k == 6) = true:=by simp [kk3]
      have f6':(k != 6) = false:=by simp [kk3]
      by_cases kk4:k = 7
      ·have f7:(k == 7) = true:=by simp [kk4]
       have f7':(k != 7) = false:=by simp [kk4]
       exact absurd (kk3.symm.trans kk4) (by decide)
      have hh4:=kk4
      have f7:(k == 7) = false:=by simp [hh4]
      have f7':(k != 7) = true:=by simp [hh4]
      by_cases p4:rn = 0
      ·have g9:decide ((0:Int) < (rn:Int)) = false:=by simp; omega
       have g10:decide (0 < rn) = false:=by simp; omega
       have dF:=qH (show qb = false by rw [HQ.out]; simp [p1,p2,kk3,hh4,p4])
       clear HQ p1 p2 kk3 p4
       go_wp2_with fail
       go_meet
       exact ⟨by rw [dF.out],rfl⟩
      have g9:decide ((0:Int) < (rn:Int)) = true:=by simp; omega
      have g10:decide (0 < rn) = true:=by simp; omega
      have dF:=qH (show qb = true by rw [HQ.out]; simp [p1,p2,kk3,hh4,Nat.pos_of_ne_zero p4])
      clear HQ p1 p2 kk3
      go_wp2_with fail
      go_meet
      exact ⟨by rw [dF.out],rfl⟩
     have hh3:=kk3
     have f6:(k == 6) = false:=by simp [hh3]
     have f6':(k != 6) = true:=by simp [hh3]
     by_cases p3:fn = 0
     ·have g7:decide ((0:Int) < (fn:Int)) = false:=by simp; omega
      have g8:decide (0 < fn) = false:=by simp; omega
      by_cases kk4:k = 7
      ·have f7:(k == 7) = true:=by simp [kk4]
       have f7':(k != 7) = false:=by simp [kk4]
       have dF:=qH (show qb = false by rw [HQ.out]; simp [p1,p2,hh3,p3,kk4])
       clear HQ p1 p2 p3 kk4
       go_wp2_with fail
       go_meet
       exact ⟨by rw [dF.out],rfl⟩
      have hh4:=kk4
      have f7:(k == 7) = false:=by simp [hh4]
      have f7':(k != 7) = true:=by simp [hh4]
      by_cases p4:rn = 0
      ·have g9:decide ((0:Int) < (rn:Int)) = false:=by simp; omega
       have g10:decide (0 < rn) = false:=by simp; omega
       have dF:=qH (show qb = false by rw [HQ.out]; simp [p1,p2,hh3,p3,hh4,p4])
       clear HQ p1 p2 p3 p4
       go_wp2_with fail
       go_meet
       exact ⟨by rw [dF.out],rfl⟩
      have g9:decide ((0:Int) < (rn:Int)) = true:=by simp; omega
      have g10:decide (0 < rn) = true:=by simp; omega
      have dF:=qH (show qb = true by rw [HQ.out]; simp [p1,p2,hh3,p3,hh4,Nat.pos_of_ne_zero p4])
      clear HQ p1 p2 p3
      go_wp2_with fail
      go_meet
      exact ⟨by rw [dF.out],rfl⟩
     have g7:decide ((0:Int) < (fn:Int)) = true:=by simp; omega
     have g8:decide (0 < fn) = true:=by simp; omega
     have dF:=qH (show qb = true by rw [HQ.out]; simp [p1,p2,hh3,Nat.pos_of_ne_zero p3])
     clear HQ p1 p2
     go_wp2_with fail
     go_meet
     exact ⟨by rw [dF.out],rfl⟩
    have g5:(s.toList == []) = false:=by rw [bj]; simp [p2]
    have g6:(s.toList != []) = true:=by unfold bne; rw [bj]; simp [p2]
    have dF:=qH (show qb = true by rw [HQ.out]; simp [p1,Nat.pos_of_ne_zero p2])
    clear HQ p1
    go_wp2_with fail
    go_meet
    exact ⟨by rw [dF.out],rfl⟩
   have g3:(i == 0) = false:=by simp [p1]
   have g4:(i != 0) = true:=by simp [p1]
   have dF:=qH (show qb = true by rw [HQ.out]; simp [p1])
   clear HQ p1
   go_wp2_with fail
   go_meet
   exact ⟨by rw [dF.out],rfl⟩
  have e0:co = false:=by simpa using hh0
  subst e0
  by_cases p0:c = 0
  ·have g1:(c == 0) = true:=by simp [p0]
   have g2:(c != 0) = false:=by simp [p0]
   by_cases hh1:nm = true
   ·have e1:nm = true:=by simpa using hh1
    subst e1
    by_cases hh2:wd = true
    ·have e2:wd = true:=by simpa using hh2
     subst e2
     by_cases kk3:k = 6
     ·have f6:(k == 6) = true:=by simp [kk3]
      have f6':(k != 6) = false:=by simp [kk3]
      by_cases kk4:k = 7
      ·have f7:(k == 7) = true:=by simp [kk4]
       have f7':(k != 7) = false:=by simp [kk4]
       exact absurd (kk3.symm.trans kk4) (by decide)
      have hh4:=kk4
      have f7:(k == 7) = false:=by simp [hh4]
      have f7':(k != 7) = true:=by simp [hh4]
      by_cases p4:rn = 0
      ·have g9:decide ((0:Int) < (rn:Int)) = false:=by simp; omega
       have g10:decide (0 < rn) = false:=by simp; omega
       have dF:=qH (show qb = false by rw [HQ.out]; simp [p0,kk3,hh4,p4])
       clear HQ p0 kk3 p4
       go_wp2_with fail
       go_meet
       exact ⟨by rw [dF.out],rfl⟩
      have g9:decide ((0:Int) < (rn:Int)) = true:=by simp; omega
      have g10:decide (0 < rn) = true:=by simp; omega
      have dF:=qH (show qb = true by rw [HQ.out]; simp [p0,kk3,hh4,Nat.pos_of_ne_zero p4])
      clear HQ p0 kk3
      go_wp2_with fail
      go_meet
      exact ⟨by rw [dF.out],rfl⟩
     have hh3:=kk3
     have f6:(k == 6) = false:=by simp [hh3]
     have f6':(k != 6) = true:=by simp [hh3]
     by_cases p3:fn = 0
     ·have g7:decide ((0:Int) < (fn:Int)) = false:=by simp; omega
      have g8:decide (0 < fn) = false:=by simp; omega
      by_cases kk4:k = 7
      ·have f7:(k == 7) = true:=by simp [kk4]
       have f7':(k != 7) = false:=by simp [kk4]
       have dF:=qH (show qb = false by rw [HQ.out]; simp [p0,hh3,p3,kk4])
       clear HQ p0 p3 kk4
       go_wp2_with fail
       go_meet
       exact ⟨by rw [dF.out],rfl⟩
      have hh4:=kk4
      have f7:(k == 7) = false:=by simp [hh4]
      have f7':(k != 7) = true:=by simp [hh4]
      by_cases p4:rn = 0
      ·have g9:decide ((0:Int) < (rn:Int)) = false:=by simp; omega
       have g10:decide (0 < rn) = false:=by simp; omega
       have dF:=qH (show qb = false by rw [HQ.out]; simp [p0,hh3,p3,hh4,p4])
       clear HQ p0 p3 p4
       go_wp2_with fail
       go_meet
       exact ⟨by rw [dF.out],rfl⟩
      have g9:decide ((0:Int) < (rn:Int)) = true:=by simp; omega
      have g10:decide (0 < rn) = true:=by simp; omega
      have dF:=qH (show qb = true by rw [HQ.out]; simp [p0,hh3,p3,hh4,Nat.pos_of_ne_zero p4])
      clear HQ p0 p3
      go_wp2_with fail
      go_meet
      exact ⟨by rw [dF.out],rfl⟩
     have g7:decide ((0:Int) < (fn:Int)) = true:=by simp; omega
     have g8:decide (0 < fn) = true:=by simp; omega
     have dF:=qH (show qb = true by rw [HQ.out]; simp [p0,hh3,Nat.pos_of_ne_zero p3])
     clear HQ p0
     go_wp2_with fail
     go_meet
     exact ⟨by rw [dF.out],rfl⟩
    have e2:wd = false:=by simpa using hh2
    subst e2
    by_cases p2:s.size = 0
    ·have g5:(s.toList == []) = true:=by rw [bj]; simp [p2]
     have g6:(s.toList != []) = false:=by unfold bne; rw [bj]; simp [p2]
     by_cases kk3:k = 6
     ·have f6:(k == 6) = true:=by simp [kk3]
      have f6':(k != 6) = false:=by simp [kk3]
      by_cases kk4:k = 7
      ·have f7:(k == 7) = true:=by simp [kk4]
       have f7':(k != 7) = false:=by simp [kk4]
       exact absurd (kk3.symm.trans kk4) (by decide)
      have hh4:=kk4
      have f7:(k == 7) = false:=by simp [hh4]
      have f7':(k != 7) = true:=by simp [hh4]
      by_cases p4:rn = 0
      ·have g9:decide ((0:Int) < (rn:Int)) = false:=by simp; omega
       have g10:decide (0 < rn) = false:=by simp; omega
       have dF:=qH (show qb = false by rw [HQ.out]; simp [p0,p2,kk3,hh4,p4])
       clear HQ p0 p2 kk3 p4
       go_wp2_with fail
       go_meet
       exact ⟨by rw [dF.out],rfl⟩
      have g9:decide ((0:Int) < (rn:Int)) = true:=by simp; omega
      have g10:decide (0 < rn) = true:=by simp; omega
      have dF:=qH (show qb = true by rw [HQ.out]; simp [p0,p2,kk3,hh4,Nat.pos_of_ne_zero p4])
      clear HQ p0 p2 kk3
      go_wp2_with fail
      go_meet
      exact ⟨by rw [dF.out],rfl⟩
     have hh3:=kk3
     have f6:(k == 6) = false:=by simp [hh3]
     have f6':(k != 6) = true:=by simp [hh3]
     by_cases p3:fn = 0
     ·have g7:decide ((0:Int) < (fn:Int)) = false:=by simp; omega
      have g8:decide (0 < fn) = false:=by simp; omega
      by_cases kk4:k = 7
      ·have f7:(k == 7) = true:=by simp [kk4]
       have f7':(k != 7) = false:=by simp [kk4]
       have dF:=qH (show qb = false by rw [HQ.out]; simp [p0,p2,hh3,p3,kk4])
       clear HQ p0 p2 p3 kk4
       go_wp2_with fail
       go_meet
       exact ⟨by rw [dF.out],rfl⟩
      have hh4:=kk4
      have f7:(k == 7) = false:=by simp [hh4]
      have f7':(k != 7) = true:=by simp [hh4]
      by_cases p4:rn = 0
      ·have g9:decide ((0:Int) < (rn:Int)) = false:=by simp; omega
       have g10:decide (0 < rn) = false:=by simp; omega
       have dF:=qH (show qb = false by rw [HQ.out]; simp [p0,p2,hh3,p3,hh4,p4])
       clear HQ p0 p2 p3 p4
       go_wp2_with fail
       go_meet
       exact ⟨by rw [dF.out],rfl⟩
      have g9:decide ((0:Int) < (rn:Int)) = true:=by simp; omega
      have g10:decide (0 < rn) = true:=by simp; omega
      have dF:=qH (show qb = true by rw [HQ.out]; simp [p0,p2,hh3,p3,hh4,Nat.pos_of_ne_zero p4])
      clear HQ p0 p2 p3
      go_wp2_with fail
      go_meet
      exact ⟨by rw [dF.out],rfl⟩
     have g7:decide ((0:Int) < (fn:Int)) = true:=by simp; omega
     have g8:decide (0 < fn) = true:=by simp; omega
     have dF:=qH (show qb = true by rw [HQ.out]; simp [p0,p2,hh3,Nat.pos_of_ne_zero p3])
     clear HQ p0 p2
     go_wp2_with fail
     go_meet
     exact ⟨by rw [dF.out],rfl⟩
    have g5:(s.toList == []) = false:=by rw [bj]; simp [p2]
    have g6:(s.toList != []) = true:=by unfold bne; rw [bj]; simp [p2]
    have dF:=qH (show qb = true by rw [HQ.out]; simp [p0,Nat.pos_of_ne_zero p2])
    clear HQ p0
    go_wp2_with fail
    go_meet
    exact ⟨by rw [dF.out],rfl⟩
   have e1:nm = false:=by simpa using hh1
   subst e1
   by_cases p1:i = 0
   ·have g3:(i == 0) = true:=by simp [p1]
    have g4:(i != 0) = false:=by simp [p1]
    by_cases hh2:wd = true
    ·have e2:wd = true:=by simpa using hh2
     subst e2
     by_cases kk3:k = 6
     ·have f6:(k == 6) = true:=by simp [kk3]
      have f6':(k != 6) = false:=by simp [kk3]
      by_cases kk4:k = 7
      ·have f7:(k == 7) = true:=by simp [kk4]
       have f7':(k != 7) = false:=by simp [kk4]
       exact absurd (kk3.symm.trans kk4) (by decide)
      have hh4:=kk4
      have f7:(k == 7) = false:=by simp [hh4]
      have f7':(k != 7) = true:=by simp [hh4]
      by_cases p4:rn = 0
      ·have g9:decide ((0:Int) < (rn:Int)) = false:=by simp; omega
       have g10:decide (0 < rn) = false:=by simp; omega
       have dF:=qH (show qb = false by rw [HQ.out]; simp [p0,p1,kk3,hh4,p4])
       clear HQ p0 p1 kk3 p4
       go_wp2_with fail
       go_meet
       exact ⟨by rw [dF.out],rfl⟩
      have g9:decide ((0:Int) < (rn:Int)) = true:=by simp; omega
      have g10:decide (0 < rn) = true:=by simp; omega
      have dF:=qH (show qb = true by rw [HQ.out]; simp [p0,p1,kk3,hh4,Nat.pos_of_ne_zero p4])
      clear HQ p0 p1 kk3
      go_wp2_with fail
      go_meet
      exact ⟨by rw [dF.out],rfl⟩
     have hh3:=kk3
     have f6:(k == 6) = false:=by simp [hh3]
     have f6':(k != 6) = true:=by simp [hh3]
     by_cases p3:fn = 0
     ·have g7:decide ((0:Int) < (fn:Int)) = false:=by simp; omega
      have g8:decide (0 < fn) = false:=by simp; omega
      by_cases kk4:k = 7
      ·have f7:(k == 7) = true:=by simp [kk4]
       have f7':(k != 7) = false:=by simp [kk4]
       have dF:=qH (show qb = false by rw [HQ.out]; simp [p0,p1,hh3,p3,kk4])
       clear HQ p0 p1 p3 kk4
       go_wp2_with fail
       go_meet
       exact ⟨by rw [dF.out],rfl⟩
      have hh4:=kk4
      have f7:(k == 7) = false:=by simp [hh4]
      have f7':(k != 7) = true:=by simp [hh4]
      by_cases p4:rn = 0
      ·have g9:decide ((0:Int) < (rn:Int)) = false:=by simp; omega
       have g10:decide (0 < rn) = false:=by simp; omega
       have dF:=qH (show qb = false by rw [HQ.out]; simp [p0,p1,hh3,p3,hh4,p4])
       clear HQ p0 p1 p3 p4
       go_wp2_with fail
       go_meet
       exact ⟨by rw [dF.out],rfl⟩
      have g9:decide ((0:Int) < (rn:Int)) = true:=by simp; omega
      have g10:decide (0 < rn) = true:=by simp; omega
      have dF:=qH (show qb = true by rw [HQ.out]; simp [p0,p1,hh3,p3,hh4,Nat.pos_of_ne_zero p4])
      clear HQ p0 p1 p3
      go_wp2_with fail
      go_meet
      exact ⟨by rw [dF.out],rfl⟩
     have g7:decide ((0:Int) < (fn:Int)) = true:=by simp; omega
     have g8:decide (0 < fn) = true:=by simp; omega
     have dF:=qH (show qb = true by rw [HQ.out]; simp [p0,p1,hh3,Nat.pos_of_ne_zero p3])
     clear HQ p0 p1
     go_wp2_with fail
     go_meet
     exact ⟨by rw [dF.out],rfl⟩
    have e2:wd = false:=by simpa using hh2
    subst e2
    by_cases p2:s.size = 0
    ·have g5:(s.toList == []) = true:=by rw [bj]; simp [p2]
     have g6:(s.toList != []) = false:=by unfold bne; rw [bj]; simp [p2]
     by_cases kk3:k = 6
     ·have f6:(k == 6) = true:=by simp [kk3]
      have f6':(k != 6) = false:=by simp [kk3]
      by_cases kk4:k = 7
      ·have f7:(k == 7) = true:=by simp [kk4]
       have f7':(k != 7) = false:=by simp [kk4]
       exact absurd (kk3.symm.trans kk4) (by decide)
      have hh4:=kk4
      have f7:(k == 7) = false:=by simp [hh4]
      have f7':(k != 7) = true:=by simp [hh4]
      by_cases p4:rn = 0
      ·have g9:decide ((0:Int) < (rn:Int)) = false:=by simp; omega
       have g10:decide (0 < rn) = false:=by simp; omega
       have dF:=qH (show qb = false by rw [HQ.out]; simp [p0,p1,p2,kk3,hh4,p4])
       clear HQ p0 p1 p2 kk3 p4
       go_wp2_with fail
       go_meet
       exact ⟨by rw [dF.out],rfl⟩
      have g9:decide ((0:Int) < (rn:Int)) = true:=by simp; omega
      have g10:decide (0 < rn) = true:=by simp; omega
      have dF:=qH (show qb = true by rw [HQ.out]; simp [p0,p1,p2,kk3,hh4,Nat.pos_of_ne_zero p4])
      clear HQ p0 p1 p2 kk3
      go_wp2_with fail
      go_meet
      exact ⟨by rw [dF.out],rfl⟩
     have hh3:=kk3
     have f6:(k == 6) = false:=by simp [hh3]
     have f6':(k != 6) = true:=by simp [hh3]
     by_cases p3:fn = 0
     ·have g7:decide ((0:Int) < (fn:Int)) = false:=by simp; omega
      have g8:decide (0 < fn) = false:=by simp; omega
      by_cases kk4:k = 7
      ·have f7:(k == 7) = true:=by simp [kk4]
       have f7':(k != 7) = false:=by simp [kk4]
       have dF:=qH (show qb = false by rw [HQ.out]; simp [p0,p1,p2,hh3,p3,kk4])
       clear HQ p0 p1 p2 p3 kk4
       go_wp2_with fail
       go_meet
       exact ⟨by rw [dF.out],rfl⟩
      have hh4:=kk4
      have f7:(k == 7) = false:=by simp [hh4]
      have f7':(k != 7) = true:=by simp [hh4]
      by_cases p4:rn = 0
      ·have g9:decide ((0:Int) < (rn:Int)) = false:=by simp; omega
       have g10:decide (0 < rn) = false:=by simp; omega
       have dF:=qH (show qb = false by rw [HQ.out]; simp [p0,p1,p2,hh3,p3,hh4,p4])
       clear HQ p0 p1 p2 p3 p4
       go_wp2_with fail
       go_meet
       exact ⟨by rw [dF.out],rfl⟩
      have g9:decide ((0:Int) < (rn:Int)) = true:=by simp; omega
      have g10:decide (0 < rn) = true:=by simp; omega
      have dF:=qH (show qb = true by rw [HQ.out]; simp [p0,p1,p2,hh3,p3,hh4,Nat.pos_of_ne_zero p4])
      clear HQ p0 p1 p2 p3
      go_wp2_with fail
      go_meet
      exact ⟨by rw [dF.out],rfl⟩
     have g7:decide ((0:Int) < (fn:Int)) = true:=by simp; omega
     have g8:decide (0 < fn) = true:=by simp; omega
     have dF:=qH (show qb = true by rw [HQ.out]; simp [p0,p1,p2,hh3,Nat.pos_of_ne_zero p3])
     clear HQ p0 p1 p2
     go_wp2_with fail
     go_meet
     exact ⟨by rw [dF.out],rfl⟩
    have g5:(s.toList == []) = false:=by rw [bj]; simp [p2]
    have g6:(s.toList != []) = true:=by unfold bne; rw [bj]; simp [p2]
    have dF:=qH (show qb = true by rw [HQ.out]; simp [p0,p1,Nat.pos_of_ne_zero p2])
    clear HQ p0 p1
    go_wp2_with fail
    go_meet
    exact ⟨by rw [dF.out],rfl⟩
   have g3:(i == 0) = false:=by simp [p1]
   have g4:(i != 0) = true:=by simp [p1]
   have dF:=qH (show qb = true by rw [HQ.out]; simp [p0,p1])
   clear HQ p0 p1
   go_wp2_with fail
   go_meet
   exact ⟨by rw [dF.out],rfl⟩
  have g1:(c == 0) = false:=by simp [p0]
  have g2:(c != 0) = true:=by simp [p0]
  have dF:=qH (show qb = true by rw [HQ.out]; simp [p0])
  clear HQ p0
  go_wp2_with fail
  go_meet
  exact ⟨by rw [dF.out],rfl⟩
 obtain ⟨rfl,rfl⟩:=hcut
 clear HQ
 cases qb
 case true =>
  have HF:=qH (show V = 15 from HS.out.trans (if_pos rfl))
  clear HS
  go_wp2_with fail
  go_ret
  exact ⟨by rw [HF.out]; rfl,HB.out⟩
 replace HS:=qH (show V = _ from HS.out.trans (if_neg (by decide)))
 obtain ⟨vb,hvb⟩:=gX (validB s)
 have C:Hid (∀ W,Calls Tryz.prog 186 #[.string s] W fun e w' => e = .returned (.bool vb)∧W = w'):=qH (fun W => by rw [hvb]; exact valid_lib s W hs)
 rw [<- hvb] at HS
 have z3:=aa Hk.out 3
 clear hvb
 go_wp2_with fail
 refine (C.out _).mono ?_
 rintro e w2 ⟨rfl,rfl⟩
 clear z3 C
 cases vb
 case false =>
  have HF:=qH (show V = 12 from HS.out.trans (if_pos rfl))
  clear HS
  go_wp2_with fail
  go_ret
  exact ⟨by rw [HF.out]; rfl,HB.out⟩
 replace HS:=qH (show V = _ from HS.out.trans (if_neg (by decide)))
 obtain ⟨qc,hqc⟩:=gX ((((k == 1) || (k == 5)) && decide (s.size = 0)))
 rw [<- hqc] at HS
 have HQ:=qH hqc
 clear hqc
 go_upto_region 19 with fail
 go_cut [132] from 133 to 145 (fun bv wr => bv = .bool qc∧W = wr)
 case first =>
  have z0:=aa Hk.out 0
  have z3:=aa Hk.out 3
  clear HS
  by_cases q1:k = 1
  ·have f1:(k == 1) = true:=by simp [q1]
   by_cases p:s.size = 0
   ·have g1:(s.toList == []) = true:=by rw [bj]; simp [p]
    have dF:=qH (show qc = true by rw [HQ.out]; simp [q1,p])
    go_wp2_with fail
    go_meet
    exact ⟨by rw [dF.out],rfl⟩
   have g1:(s.toList == []) = false:=by rw [bj]; simp [p]
   have dF:=qH (show qc = false by rw [HQ.out]; simp [q1,p])
   go_wp2_with fail
   go_meet
   exact ⟨by rw [dF.out],rfl⟩
  have f1:(k == 1) = false:=by simp [q1]
  by_cases q5:k = 5
  ·have f5:(k == 5) = true:=by simp [q5]
   by_cases p:s.size = 0
   ·have g1:(s.toList == []) = true:=by rw [bj]; simp [p]
    have dF:=qH (show qc = true by rw [HQ.out]; simp [q5,p])
    go_wp2_with fail
    go_meet
    exact ⟨by rw [dF.out],rfl⟩
   have g1:(s.toList == []) = false:=by rw [bj]; simp [p]
   have dF:=qH (show qc = false by rw [HQ.out]; simp [q5,p])
   go_wp2_with fail
   go_meet
   exact ⟨by rw [dF.out],rfl⟩
  have f5:(k == 5) = false:=by simp [q5]
  have dF:=qH (show qc = false by rw [HQ.out]; simp [q1,q5])
  go_wp2_with fail
  go_meet
  exact ⟨by rw [dF.out],rfl⟩
 obtain ⟨rfl,rfl⟩:=hcut
 clear HQ
 cases qc
 case true =>
  have HF:=qH (show V = 11 from HS.out.trans (if_pos rfl))
  clear HS
  go_wp2_with fail
  go_ret
  exact ⟨by rw [HF.out]; rfl,HB.out⟩
 replace HS:=qH (show V = _ from HS.out.trans (if_neg (by decide)))
 obtain ⟨qd,hqd⟩:=gX (((k == 5) && decide (1024 < s.size)))
 rw [<- hqd] at HS
 have HQ:=qH hqd
 clear hqd
 go_upto_region 21 with fail
 go_cut [146] from 147 to 155 (fun bv wr => bv = .bool qd∧W = wr)
 case first =>
  have z0:=aa Hk.out 0
  have z3:=aa Hk.out 3
  clear HS
  by_cases q5:k = 5
  ·have f5:(k == 5) = true:=by simp [q5]
   by_cases p:1024 < s.size
   ·have g1:decide ((1024:Int) < (s.size:Int)) = true:=by simp; omega
    have g2:decide (1024 < s.size) = true:=by simp; omega
    have dF:=qH (show qd = true by rw [HQ.out]; simp [q5,p])
    go_wp2_with fail
    go_meet
    exact ⟨by rw [dF.out],rfl⟩
   have g1:decide ((1024:Int) < (s.size:Int)) = false:=by simp; omega
   have g2:decide (1024 < s.size) = false:=by simp; omega
   have dF:=qH (show qd = false by rw [HQ.out]; simp [p])
   go_wp2_with fail
   go_meet
   exact ⟨by rw [dF.out],rfl⟩
  have f5:(k == 5) = false:=by simp [q5]
  have dF:=qH (show qd = false by rw [HQ.out]; simp [q5])
  go_wp2_with fail
  go_meet
  exact ⟨by rw [dF.out],rfl⟩
 obtain ⟨rfl,rfl⟩:=hcut
 clear HQ
 cases qd
 case true =>
  have HF:=qH (show V = 10 from HS.out.trans (if_pos rfl))
  clear HS
  go_wp2_with fail
  go_ret
  exact ⟨by rw [HF.out]; rfl,HB.out⟩
 replace HS:=qH (show V = _ from HS.out.trans (if_neg (by decide)))
 cases st
 case false =>
  have HF:=qH (show V = 0 from HS.out.trans (if_neg (by simp)))
  clear HS
  go_wp2_with fail
  go_ret
  exact ⟨by rw [HF.out]; rfl,HB.out⟩
 obtain ⟨nb,hnb⟩:=gX (nameB s)
 have C:Hid (∀ W,Calls Tryz.prog 185 #[.string s] W (RetB nb W)):=qH (fun W => by rw [hnb]; exact isName185 s W)
 rw [<- hnb] at HS
 have z3:=aa Hk.out 3
 clear hnb
 go_wp2_with fail
 refine (C.out _).mono ?_
 rintro e w3 ⟨rfl,hb3⟩
 replace HB:=qH (HB.out.trans (hb3.mono HB.out.size))
 clear z3 C hb3
 cases nb
 ·have HF:=qH (show V = 13 from HS.out)
  clear HS
  go_wp2_with fail
  go_ret
  exact ⟨by rw [HF.out]; rfl,HB.out⟩
 have HF:=qH (show V = 0 from HS.out)
 clear HS
 go_wp2_with fail
 go_ret
 exact ⟨by rw [HF.out]; rfl,HB.out⟩
end Go.Proofs.YtmhhcfceikcfbaaGreat
