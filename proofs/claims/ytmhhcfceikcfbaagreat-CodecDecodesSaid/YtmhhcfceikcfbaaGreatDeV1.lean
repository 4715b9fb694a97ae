/- Walks: strings valid or not. -/
import Derived.Laws.Shifts
import Derived.Test.YtmhhcfceikcfbaaGreatDeW1
namespace Go.Proofs.YtmhhcfceikcfbaaGreat
open Go.RowKit
set_option maxRecDepth 100000
set_option maxHeartbeats 4000000
def lowB (a:Nat):Nat:=if a = 224 then 160 else if a = 240 then 144 else 128
def bi (a:Nat):Nat:=if a = 237 then 159 else if a = 244 then 143 else 191
def contB (b:Nat):Bool:=decide (128≤b∧b≤191)
def secB (a b:Nat):Bool:=decide (lowB a≤b∧b≤bi a)
def lenB (a:Nat):Nat:=if a < 128 then 1 else if a < 194∨244 < a then 0 else if a < 224 then 2 else if a < 240 then 3 else 4
def dec2 (a:Nat):List Nat→Option (Nat × Nat)
 | b::_ => if secB a b = true then some ((a - 192) * 64 + (b - 128),2) else none
 | [] => none
def dec3 (a:Nat):List Nat→Option (Nat × Nat)
 | b::c::_ => if secB a b = true∧contB c = true then some (((a - 224) * 64 + (b - 128)) * 64 + (c - 128),3) else none
 | _ => none
def dec4 (a:Nat):List Nat→Option (Nat × Nat)
 | b::c::d::_ => if secB a b = true∧contB c = true∧contB d = true then some ((((a - 240) * 64 + (b - 128)) * 64 + (c - 128)) * 64 + (d - 128),4) else none
 | _ => none
def dec1:List Nat→Option (Nat × Nat)
 | [] => none
 | a::r => if lenB a = 1 then some (a,1) else if lenB a = 2 then dec2 a r else if lenB a = 3 then dec3 a r else if lenB a = 4 then dec4 a r else none
theorem dec2_size {a p n:Nat} {r:List Nat} (h:dec2 a r = some (p,n)):n = 2∧1≤r.length:=by
 match r with
 | [] => exact absurd h (by simp [dec2])
 | b::r =>
  simp only [dec2] at h
  by_cases hs:secB a b = true
  ·rw [if_pos hs] at h
   injection h with h
   injection h with _ h
   exact ⟨h.symm,by simp⟩
  rw [if_neg hs] at h; exact absurd h (by simp)
theorem dec3_size {a p n:Nat} {r:List Nat} (h:dec3 a r = some (p,n)):n = 3∧2≤r.length:=by
 match r with
 | [] => exact absurd h (by simp [dec3])
 | [b] => exact absurd h (by simp [dec3])
 | b::c::r =>
  simp only [dec3] at h
  by_cases hs:secB a b = true∧contB c = true
  ·rw [if_pos hs] at h
   injection h with h
   injection h with _ h
   exact ⟨h.symm,by simp⟩
  rw [if_neg hs] at h; exact absurd h (by simp)
theorem dec4_size {a p n:Nat} {r:List Nat} (h:dec4 a r = some (p,n)):n = 4∧3≤r.length:=by
 match r with
 | [] => exact absurd h (by simp [dec4])
 | [b] => exact absurd h (by simp [dec4])
 | [b,c] => exact absurd h (by simp [dec4])
 | b::c::d::r =>
  simp only [dec4] at h
  by_cases hs:secB a b = true∧contB c = true∧contB d = true
  ·rw [if_pos hs] at h
   injection h with h
   injection h with _ h
   exact ⟨h.symm,by simp⟩
  rw [if_neg hs] at h; exact absurd h (by simp)
theorem dec1_size {l:List Nat} {p n:Nat} (h:dec1 l = some (p,n)):1≤n∧n≤l.length∧n≤4:=by
 match l with
 | [] => exact absurd h (by simp [dec1])
 | a::r =>
  simp only [dec1] at h
  rw [List.length_cons]
  by_cases h1:lenB a = 1
  ·rw [if_pos h1] at h
   injection h with h
   injection h with _ h
   omega
  rw [if_neg h1] at h
  by_cases h2:lenB a = 2
  ·rw [if_pos h2] at h
   have:=dec2_size h
   omega
  rw [if_neg h2] at h
  by_cases h3:lenB a = 3
  ·rw [if_pos h3] at h
   have:=dec3_size h
   omega
  rw [if_neg h3] at h
  by_cases h4:lenB a = 4
  ·rw [if_pos h4] at h
   have:=dec4_size h
   omega
  rw [if_neg h4] at h
  exact absurd h (by simp)
def pts (l:List Nat):Option (List (Nat × Nat)) :=
 match _h:dec1 l with
 | none => if l = [] then some [] else none
 | some (p,n) => (pts (l.drop n)).map fun t => (p,n)::t
termination_by l.length
decreasing_by
 have:=dec1_size _h
 rw [List.length_drop]; omega
theorem pts_nil:pts [] = some []:=by unfold pts; rfl
theorem pts_bad {l:List Nat} (h:dec1 l = none) (hl:l≠[]):pts l = none:=by
 unfold pts
 split
 ·rw [if_neg hl]
 rename_i h2; rw [h] at h2; cases h2
theorem pts_cons {l:List Nat} {p n:Nat} (h:dec1 l = some (p,n)):pts l = (pts (l.drop n)).map fun t => (p,n)::t:=by
 rw [pts]
 split
 ·rename_i h2; rw [h] at h2; cases h2
 rename_i p' n' h2
 rw [h] at h2
 cases h2
 rfl
theorem lenB_1 {a:Nat}:lenB a = 1↔a < 128:=by
 unfold lenB
 by_cases h1:a < 128
 ·rw [if_pos h1]; omega
 rw [if_neg h1]
 by_cases h2:a < 194∨244 < a
 ·rw [if_pos h2]; omega
 rw [if_neg h2]
 by_cases h3:a < 224
 ·rw [if_pos h3]; omega
 rw [if_neg h3]
 by_cases h4:a < 240
 ·rw [if_pos h4]; omega
 rw [if_neg h4]; omega
theorem lenB_2 {a:Nat}:lenB a = 2↔194≤a∧a≤223:=by
 unfold lenB
 by_cases h1:a < 128
 ·rw [if_pos h1]; omega
 rw [if_neg h1]
 by_cases h2:a < 194∨244 < a
 ·rw [if_pos h2]; omega
 rw [if_neg h2]
 by_cases h3:a < 224
 ·rw [if_pos h3]; omega
 rw [if_neg h3]
 by_cases h4:a < 240
 ·rw [if_pos h4]; omega
 rw [if_neg h4]; omega
theorem lenB_3 {a:Nat}:lenB a = 3↔224≤a∧a≤239:=by
 unfold lenB
 by_cases h1:a < 128
 ·rw [if_pos h1]; omega
 rw [if_neg h1]
 by_cases h2:a < 194∨244 < a
 ·rw [if_pos h2]; omega
 rw [if_neg h2]
 by_cases h3:a < 224
 ·rw [if_pos h3]; omega
 rw [if_neg h3]
 by_cases h4:a < 240
 ·rw [if_pos h4]; omega
 rw [if_neg h4]; omega
theorem lenB_4 {a:Nat}:lenB a = 4↔240≤a∧a≤244:=by
 unfold lenB
 by_cases h1:a < 128
 ·rw [if_pos h1]; omega
 rw [if_neg h1]
 by_cases h2:a < 194∨244 < a
 ·rw [if_pos h2]; omega
 rw [if_neg h2]
 by_cases h3:a < 224
 ·rw [if_pos h3]; omega
 rw [if_neg h3]
 by_cases h4:a < 240
 ·rw [if_pos h4]; omega
 rw [if_neg h4]; omega
theorem secB_iff (a b:Nat):secB a b = true↔lowB a≤b∧b≤bi a:=by unfold secB; simp
theorem bJ (b:Nat):contB b = true↔128≤b∧b≤191:=by unfold contB; simp
theorem secB_cont {a b:Nat} (h:secB a b = true):contB b = true:=by
 rw [secB_iff] at h
 rw [bJ]
 unfold lowB bi at h
 obtain ⟨h1,h2⟩:=h
 refine ⟨?_,?_⟩
 ·split at h1
  ·omega
  split at h1 <;> omega
 split at h2
 ·omega
 split at h2 <;> omega
theorem lowB_eq (a:Nat):lowB a = if a = 224 then 160 else if a = 240 then 144 else 128:=rfl
theorem highB_eq (a:Nat):bi a = if a = 237 then 159 else if a = 244 then 143 else 191:=rfl
theorem ref4 {a b c d:Nat} (ha:lenB a = 4) (hb:contB b = true) (hc:contB c = true) (hd:contB d = true) :
  secB a b = true↔65536≤(((a - 240) * 64 + (b - 128)) * 64 + (c - 128)) * 64 + (d - 128)∧(((a - 240) * 64 + (b - 128)) * 64 + (c - 128)) * 64 + (d - 128)≤1114111:=by
 rw [lenB_4] at ha
 rw [bJ] at hb hc hd
 rw [secB_iff,lowB_eq,highB_eq]
 rw [if_neg (show ¬ a = 224 by omega),if_neg (show ¬ a = 237 by omega)]
 by_cases h1:a = 240
 ·rw [if_pos h1,if_neg (by omega)]; omega
 rw [if_neg h1]
 by_cases h2:a = 244
 ·rw [if_pos h2]; omega
 rw [if_neg h2]; omega
theorem dec1_lt {l:List Nat} {p n:Nat} (hl:∀ b∈l,b < 256) (h:dec1 l = some (p,n)):p≤1114111:=by
 match l with
 | [] => exact absurd h (by simp [dec1])
 | a::r =>
  simp only [dec1] at h
  by_cases h1:lenB a = 1
  ·rw [if_pos h1] at h
   rw [lenB_1] at h1
   injection h with h
   injection h with h _
   omega
  rw [if_neg h1] at h
  by_cases h2:lenB a = 2
  ·rw [if_pos h2] at h
   match r with
   | [] => exact absurd h (by simp [dec2])
   | b::r =>
    simp only [dec2] at h
    by_cases hs:secB a b = true
    ·rw [if_pos hs] at h
     rw [lenB_2] at h2
     have:=(bJ b).1 (secB_cont hs)
     injection h with h
     injection h with h _
     omega
    rw [if_neg hs] at h; exact absurd h (by simp)
  rw [if_neg h2] at h
  by_cases h3:lenB a = 3
  ·rw [if_pos h3] at h
   match r with
   | [] => exact absurd h (by simp [dec3])
   | [b] => exact absurd h (by simp [dec3])
   | b::c::r =>
    simp only [dec3] at h
    by_cases hs:secB a b = true∧contB c = true
    ·rw [if_pos hs] at h
     rw [lenB_3] at h3
     have h5:=(bJ b).1 (secB_cont hs.1)
     have h6:=(bJ c).1 hs.2
     injection h with h
     injection h with h _
     omega
    rw [if_neg hs] at h; exact absurd h (by simp)
  rw [if_neg h3] at h
  by_cases h4:lenB a = 4
  ·rw [if_pos h4] at h
   match r with
   | [] => exact absurd h (by simp [dec4])
   | [b] => exact absurd h (by simp [dec4])
   | [b,c] => exact absurd h (by simp [dec4])
   | b::c::d::r =>
    simp only [dec4] at h
    by_cases hs:secB a b = true∧contB c = true∧contB d = true
    ·rw [if_pos hs] at h
     have:=(ref4 h4 (secB_cont hs.1) hs.2.1 hs.2.2).1 hs.1
     injection h with h
     injection h with h _
     omega
    rw [if_neg hs] at h; exact absurd h (by simp)
  rw [if_neg h4] at h
  exact absurd h (by simp)
theorem ret_tail {a b c x y z:Int} (h1:a = x) (h2:b = y) (h3:c = z):Ending.returned (.tuple #[.int .u8 a,.int .u8 b,.int .i64 c]) = .returned (.tuple #[.int .u8 x,.int .u8 y,.int .i64 z]):=by rw [h1,h2,h3]
theorem tail_lib (a:Nat) (w:World) :
  Calls Tryz.prog 227 #[.int .u8 (a:Int)] w fun e w' => e = .returned (.tuple #[.int .u8 (lowB a:Int),.int .u8 (bi a:Int),.int .i64 (lenB a:Int)])∧w = w':=by
 have hc:a < 128∨(128≤a∧a < 194)∨244 < a∨(194≤a∧a < 224)∨a = 224∨(224 < a∧a < 237)∨a = 237∨(237 < a∧a < 240)∨a = 240∨(240 < a∧a < 244)∨a = 244:=by omega
 rcases hc with h | h | h | h | h | h | h | h | h | h | h
 ·have HV:Hid (lowB a = 128∧bi a = 191∧lenB a = 1):=qH (by
   unfold lowB bi lenB
   repeat' (first | split | constructor)
   all_goals omega)
  have d1:decide ((a:Int) < 128) = true:=by simp; omega
  have d2:decide ((a:Int) < 194) = true:=by simp; omega
  have d3:decide (244 < (a:Int)) = false:=by simp; omega
  have d4:decide ((a:Int) < 224) = true:=by simp; omega
  have d5:decide ((a:Int) < 240) = true:=by simp; omega
  have e1:((a:Int) == 224) = false:=by simp; omega
  have e2:((a:Int) == 237) = false:=by simp; omega
  have e3:((a:Int) == 240) = false:=by simp; omega
  have e4:((a:Int) == 244) = false:=by simp; omega
  clear h
  go_enter Tryz.func227,Tryz.ntmps227
  go_wp2_with fail
  go_ret3
  obtain ⟨v1,v2,v3⟩:=HV.out
  exact ⟨ret_tail (by rw [v1]; rfl) (by rw [v2]; rfl) (by rw [v3]; rfl),rfl⟩
 ·have HV:Hid (lowB a = 128∧bi a = 191∧lenB a = 0):=qH (by
   unfold lowB bi lenB
   repeat' (first | split | constructor)
   all_goals omega)
  have d1:decide ((a:Int) < 128) = false:=by simp; omega
  have d2:decide ((a:Int) < 194) = true:=by simp; omega
  have d3:decide (244 < (a:Int)) = false:=by simp; omega
  have d4:decide ((a:Int) < 224) = true:=by simp; omega
  have d5:decide ((a:Int) < 240) = true:=by simp; omega
  have e1:((a:Int) == 224) = false:=by simp; omega
  have e2:((a:Int) == 237) = false:=by simp; omega
  have e3:((a:Int) == 240) = false:=by simp; omega
  have e4:((a:Int) == 244) = false:=by simp; omega
  clear h
  go_enter Tryz.func227,Tryz.ntmps227
  go_wp2_with fail
  go_ret3
  obtain ⟨v1,v2,v3⟩:=HV.out
  exact ⟨ret_tail (by rw [v1]; rfl) (by rw [v2]; rfl) (by rw [v3]; rfl),rfl⟩
 ·have HV:Hid (lowB a = 128∧bi a = 191∧lenB a = 0):=qH (by
   unfold lowB bi lenB
   repeat' (first | split | constructor)
   all_goals omega)
  have d1:decide ((a:Int) < 128) = false:=by simp; omega
  have d2:decide ((a:Int) < 194) = false:=by simp; omega
  have d3:decide (244 < (a:Int)) = true:=by simp; omega
  have d4:decide ((a:Int) < 224) = false:=by simp; omega
  have d5:decide ((a:Int) < 240) = false:=by simp; omega
  have e1:((a:Int) == 224) = false:=by simp; omega
  have e2:((a:Int) == 237) = false:=by simp; omega
  have e3:((a:Int) == 240) = false:=by simp; omega
  have e4:((a:Int) == 244) = false:=by simp; omega
  clear h
  go_enter Tryz.func227,Tryz.ntmps227
  go_wp2_with fail
  go_ret3
  obtain ⟨v1,v2,v3⟩:=HV.out
  exact ⟨ret_tail (by rw [v1]; rfl) (by rw [v2]; rfl) (by rw [v3]; rfl),rfl⟩
 ·have HV:Hid (lowB a = 128∧bi a = 191∧lenB a = 2):=qH (by
   unfold lowB bi lenB
   repeat' (first | split | constructor)
   all_goals omega)
  have d1:decide ((a:Int) < 128) = false:=by simp; omega
  have d2:decide ((a:Int) < 194) = false:=by simp; omega
  have d3:decide (244 < (a:Int)) = false:=by simp; omega
  have d4:decide ((a:Int) < 224) = true:=by simp; omega
  have d5:decide ((a:Int) < 240) = true:=by simp; omega
  have e1:((a:Int) == 224) = false:=by simp; omega
  have e2:((a:Int) == 237) = false:=by simp; omega
  have e3:((a:Int) == 240) = false:=by simp; omega
  have e4:((a:Int) == 244) = false:=by simp; omega
  clear h
  go_enter Tryz.func227,Tryz.ntmps227
  go_wp2_with fail
  go_ret3
  obtain ⟨v1,v2,v3⟩:=HV.out
  exact ⟨ret_tail (by rw [v1]; rfl) (by rw [v2]; rfl) (by rw [v3]; rfl),rfl⟩
 ·have HV:Hid (lowB a = 160∧bi a = 191∧lenB a = 3):=qH (by
   unfold lowB bi lenB
   repeat' (first | split | constructor)
   all_goals omega)
  have d1:decide ((a:Int) < 128) = false:=by simp; omega
  have d2:decide ((a:Int) < 194) = false:=by simp; omega
  have d3:decide (244 < (a:Int)) = false:=by simp; omega
  have d4:decide ((a:Int) < 224) = false:=by simp; omega
  have d5:decide ((a:Int) < 240) = true:=by simp; omega
  have e1:((a:Int) == 224) = true:=by simp; omega
  have e2:((a:Int) == 237) = false:=by simp; omega
  have e3:((a:Int) == 240) = false:=by simp; omega
  have e4:((a:Int) == 244) = false:=by simp; omega
  clear h
  go_enter Tryz.func227,Tryz.ntmps227
  go_wp2_with fail
  go_ret3
  obtain ⟨v1,v2,v3⟩:=HV.out
  exact ⟨ret_tail (by rw [v1]; rfl) (by rw [v2]; rfl) (by rw [v3]; rfl),rfl⟩
 ·have HV:Hid (lowB a = 128∧bi a = 191∧lenB a = 3):=qH (by
   unfold lowB bi lenB
   repeat' (first | split | constructor)
   all_goals omega)
  have d1:decide ((a:Int) < 128) = false:=by simp; omega
  have d2:decide ((a:Int) < 194) = false:=by simp; omega
  have d3:decide (244 < (a:Int)) = false:=by simp; omega
  have d4:decide ((a:Int) < 224) = false:=by simp; omega
  have d5:decide ((a:Int) < 240) = true:=by simp; omega
  have e1:((a:Int) == 224) = false:=by simp; omega
  have e2:((a:Int) == 237) = false:=by simp; omega
  have e3:((a:Int) == 240) = false:=by simp; omega
  have e4:((a:Int) == 244) = false:=by simp; omega
  clear h
  go_enter Tryz.func227,Tryz.ntmps227
  go_wp2_with fail
  go_ret3
  obtain ⟨v1,v2,v3⟩:=HV.out
  exact ⟨ret_tail (by rw [v1]; rfl) (by rw [v2]; rfl) (by rw [v3]; rfl),rfl⟩
 ·have HV:Hid (lowB a = 128∧bi a = 159∧lenB a = 3):=qH (by
   unfold lowB bi lenB
   repeat' (first | split | constructor)
   all_goals omega)
  have d1:decide ((a:Int) < 128) = false:=by simp; omega
  have d2:decide ((a:Int) < 194) = false:=by simp; omega
  have d3:decide (244 < (a:Int)) = false:=by simp; omega
  have d4:decide ((a:Int) < 224) = false:=by simp; omega
  have d5:decide ((a:Int) < 240) = true:=by simp; omega
  have e1:((a:Int) == 224) = false:=by simp; omega
  have e2:((a:Int) == 237) = true:=by simp; omega
  have e3:((a:Int) == 240) = false:=by simp; omega
  have e4:((a:Int) == 244) = false:=by simp; omega
  clear h
  go_enter Tryz.func227,Tryz.ntmps227
  go_wp2_with fail
  go_ret3
  obtain ⟨v1,v2,v3⟩:=HV.out
  exact ⟨ret_tail (by rw [v1]; rfl) (by rw [v2]; rfl) (by rw [v3]; rfl),rfl⟩
 ·have HV:Hid (lowB a = 128∧bi a = 191∧lenB a = 3):=qH (by
   unfold lowB bi lenB
   repeat' (first | split | constructor)
   all_goals omega)
  have d1:decide ((a:Int) < 128) = false:=by simp; omega
  have d2:decide ((a:Int) < 194) = false:=by simp; omega
  have d3:decide (244 < (a:Int)) = false:=by simp; omega
  have d4:decide ((a:Int) < 224) = false:=by simp; omega
  have d5:decide ((a:Int) < 240) = true:=by simp; omega
  have e1:((a:Int) == 224) = false:=by simp; omega
  have e2:((a:Int) == 237) = false:=by simp; omega
  have e3:((a:Int) == 240) = false:=by simp; omega
  have e4:((a:Int) == 244) = false:=by simp; omega
  clear h
  go_enter Tryz.func227,Tryz.ntmps227
  go_wp2_with fail
  go_ret3
  obtain ⟨v1,v2,v3⟩:=HV.out
  exact ⟨ret_tail (by rw [v1]; rfl) (by rw [v2]; rfl) (by rw [v3]; rfl),rfl⟩
 ·have HV:Hid (lowB a = 144∧bi a = 191∧lenB a = 4):=qH (by
   unfold lowB bi lenB
   repeat' (first | split | constructor)
   all_goals omega)
  have d1:decide ((a:Int) < 128) = false:=by simp; omega
  have d2:decide ((a:Int) < 194) = false:=by simp; omega
  have d3:decide (244 < (a:Int)) = false:=by simp; omega
  have d4:decide ((a:Int) < 224) = false:=by simp; omega
  have d5:decide ((a:Int) < 240) = false:=by simp; omega
  have e1:((a:Int) == 224) = false:=by simp; omega
  have e2:((a:Int) == 237) = false:=by simp; omega
  have e3:((a:Int) == 240) = true:=by simp; omega
  have e4:((a:Int) == 244) = false:=by simp; omega
  clear h
  go_enter Tryz.func227,Tryz.ntmps227
  go_wp2_with fail
  go_ret3
  obtain ⟨v1,v2,v3⟩:=HV.out
  exact ⟨ret_tail (by rw [v1]; rfl) (by rw [v2]; rfl) (by rw [v3]; rfl),rfl⟩
 ·have HV:Hid (lowB a = 128∧bi a = 191∧lenB a = 4):=qH (by
   unfold lowB bi lenB
   repeat' (first | split | constructor)
   all_goals omega)
  have d1:decide ((a:Int) < 128) = false:=by simp; omega
  have d2:decide ((a:Int) < 194) = false:=by simp; omega
  have d3:decide (244 < (a:Int)) = false:=by simp; omega
  have d4:decide ((a:Int) < 224) = false:=by simp; omega
  have d5:decide ((a:Int) < 240) = false:=by simp; omega
  have e1:((a:Int) == 224) = false:=by simp; omega
  have e2:((a:Int) == 237) = false:=by simp; omega
  have e3:((a:Int) == 240) = false:=by simp; omega
  have e4:((a:Int) == 244) = false:=by simp; omega
  clear h
  go_enter Tryz.func227,Tryz.ntmps227
  go_wp2_with fail
  go_ret3
  obtain ⟨v1,v2,v3⟩:=HV.out
  exact ⟨ret_tail (by rw [v1]; rfl) (by rw [v2]; rfl) (by rw [v3]; rfl),rfl⟩
 have HV:Hid (lowB a = 128∧bi a = 143∧lenB a = 4):=qH (by
  unfold lowB bi lenB
  repeat' (first | split | constructor)
  all_goals omega)
 have d1:decide ((a:Int) < 128) = false:=by simp; omega
 have d2:decide ((a:Int) < 194) = false:=by simp; omega
 have d3:decide (244 < (a:Int)) = false:=by simp; omega
 have d4:decide ((a:Int) < 224) = false:=by simp; omega
 have d5:decide ((a:Int) < 240) = false:=by simp; omega
 have e1:((a:Int) == 224) = false:=by simp; omega
 have e2:((a:Int) == 237) = false:=by simp; omega
 have e3:((a:Int) == 240) = false:=by simp; omega
 have e4:((a:Int) == 244) = true:=by simp; omega
 clear h
 go_enter Tryz.func227,Tryz.ntmps227
 go_wp2_with fail
 go_ret3
 obtain ⟨v1,v2,v3⟩:=HV.out
 exact ⟨ret_tail (by rw [v1]; rfl) (by rw [v2]; rfl) (by rw [v3]; rfl),rfl⟩
theorem i64_and_nat (a b:Nat) (ha:a < 9223372036854775808) (hb:b < 9223372036854775808):bits BinOp.and IntKind.i64 (a:Int) (b:Int) = ((a &&& b:Nat):Int):=by
 have hx:a &&& b < 2 ^ 63:=Nat.and_lt_two_pow _ (by omega)
 show IntKind.i64.wrap ((BitVec.ofInt 64 (a:Int) &&& BitVec.ofInt 64 (b:Int)).toNat:Int) = _
 rw [BitVec.toNat_and,ofInt_u64 a (by omega),ofInt_u64 b (by omega)]
 exact IntWalk.i64_in _ (by omega)
theorem i64_or_nat (a b:Nat) (ha:a < 9223372036854775808) (hb:b < 9223372036854775808):bits BinOp.or IntKind.i64 (a:Int) (b:Int) = ((a ||| b:Nat):Int):=by
 have hx:a ||| b < 2 ^ 63:=Nat.or_lt_two_pow (by omega) (by omega)
 show IntKind.i64.wrap ((BitVec.ofInt 64 (a:Int) ||| BitVec.ofInt 64 (b:Int)).toNat:Int) = _
 rw [BitVec.toNat_or,ofInt_u64 a (by omega),ofInt_u64 b (by omega)]
 exact IntWalk.i64_in _ (by omega)
theorem and_mask (a i m:Nat) (ha:a < 256) (hm:m = 2 ^ i - 1) (hi:m < 256):bits BinOp.and IntKind.i64 (a:Int) (m:Int) = ((a % 2 ^ i:Nat):Int):=by
 rw [i64_and_nat a m (by omega) (by omega),hm,Nat.and_two_pow_sub_one_eq_mod]
theorem or_six (acc b:Nat) (h1:acc < 2097152) (hb:b < 64):bits BinOp.or IntKind.i64 ((acc * 64:Nat):Int) (b:Int) = ((acc * 64 + b:Nat):Int):=by
 rw [i64_or_nat _ _ (by omega) (by omega)]
 have:=(Nat.two_pow_add_eq_or_of_lt (i:=6) hb acc).symm
 rw [show acc * 64 = 2 ^ 6 * acc by omega,this]
def decR (acc lo hi:Nat):Nat→List Nat→Option Nat
 | 0,_ => some acc
 | _ + 1,[] => none
 | n + 1,b::r => if lo≤b∧b≤hi then decR (acc * 64 + (b - 128)) 128 191 n r else none
theorem dec1_one {a:Nat} {r:List Nat} (h:lenB a = 1):dec1 (a::r) = some (a,1):=by simp only [dec1]; rw [if_pos h]
theorem dec1_zero {a:Nat} {r:List Nat} (h:lenB a = 0):dec1 (a::r) = none:=by simp only [dec1]; rw [h]; rfl
theorem dec1_two {a:Nat} {r:List Nat} (h:lenB a = 2):dec1 (a::r) = (decR (a % 32) (lowB a) (bi a) 1 r).map fun p => (p,2):=by
 simp only [dec1]
 rw [h]
 have hm:a % 32 = a - 192:=by rw [lenB_2] at h; omega
 match r with
 | [] => rfl
 | b::r =>
  show dec2 a (b::r) = _
  simp only [dec2,decR]
  by_cases hs:secB a b = true
  ·rw [if_pos hs,if_pos ((secB_iff a b).1 hs),hm]; rfl
  rw [if_neg hs,if_neg fun h => hs ((secB_iff a b).2 h)]; rfl
theorem dec1_three {a:Nat} {r:List Nat} (h:lenB a = 3):dec1 (a::r) = (decR (a % 16) (lowB a) (bi a) 2 r).map fun p => (p,3):=by
 simp only [dec1]
 rw [h]
 have hm:a % 16 = a - 224:=by rw [lenB_3] at h; omega
 match r with
 | [] => rfl
 | [b] => 
  show dec3 a [b] = _
  simp only [dec3,decR]
  split <;> rfl
 | b::c::r =>
  show dec3 a (b::c::r) = _
  simp only [dec3,decR]
  by_cases hs:secB a b = true
  ·rw [if_pos ((secB_iff a b).1 hs),hm]
   by_cases ht:contB c = true
   ·rw [if_pos ⟨hs,ht⟩,if_pos ((bJ c).1 ht)]; rfl
   rw [if_neg fun h => ht h.2,if_neg fun h => ht ((bJ c).2 h)]; rfl
  rw [if_neg fun h => hs h.1,if_neg fun h => hs ((secB_iff a b).2 h)]; rfl
theorem dec1_four {a:Nat} {r:List Nat} (h:lenB a = 4):dec1 (a::r) = (decR (a % 8) (lowB a) (bi a) 3 r).map fun p => (p,4):=by
 simp only [dec1]
 rw [h]
 have hm:a % 8 = a - 240:=by rw [lenB_4] at h; omega
 match r with
 | [] => rfl
 | [b] =>
  show dec4 a [b] = _
  simp only [dec4,decR]
  split <;> rfl
 | [b,c] =>
  show dec4 a [b,c] = _
  simp only [dec4,decR]
  split <;> first | rfl | (split <;> rfl)
 | b::c::d::r =>
  show dec4 a (b::c::d::r) = _
  simp only [dec4,decR]
  by_cases hs:secB a b = true
  ·rw [if_pos ((secB_iff a b).1 hs),hm]
   by_cases ht:contB c = true
   ·rw [if_pos ((bJ c).1 ht)]
    by_cases hu:contB d = true
    ·rw [if_pos ⟨hs,ht,hu⟩,if_pos ((bJ d).1 hu)]; rfl
    rw [if_neg fun h => hu h.2.2,if_neg fun h => hu ((bJ d).2 h)]; rfl
   rw [if_neg fun h => ht h.2.1,if_neg fun h => ht ((bJ c).2 h)]; rfl
  rw [if_neg fun h => hs h.1,if_neg fun h => hs ((secB_iff a b).2 h)]; rfl
theorem bL (s:ByteArray) (k:Nat) (h:k < s.size):(al s).drop k = s[k].toNat::(al s).drop (k + 1):=by
 rw [List.drop_eq_getElem_cons (by rw [aE]; exact h)]
 congr 1
 simp only [al,List.getElem_map]
 rfl
theorem bytesN_get (s:ByteArray) (k:Nat) (h:k < s.size):(al s)[k]? = some s[k].toNat:=by
 have:=bL s k h
 have h2:(al s)[k]? = ((al s).drop k)[0]?:=by rw [List.getElem?_drop]; rfl
 rw [h2,this]; rfl
def DecE (R:Option (Nat × Nat)) (e:Ending):Prop :=
 match R with
 | some (p,n) => e = .returned (.tuple #[.int .i64 (p:Int),.int .i64 (n:Int),.bool true])
 | none => ∃ x y:Int,e = .returned (.tuple #[.int .i64 x,.int .i64 y,.bool false])
theorem DecE.no {R:Option (Nat × Nat)} {x y:Int} (h:R = none):DecE R (.returned (.tuple #[.int .i64 x,.int .i64 y,.bool false])):=by rw [h]; exact ⟨x,y,rfl⟩
theorem DecE.yes {R:Option (Nat × Nat)} {p n:Nat} {x y:Int} (h:R = some (p,n)) (hx:x = p) (hy:y = n):DecE R (.returned (.tuple #[.int .i64 x,.int .i64 y,.bool true])):=by rw [h,hx,hy]; rfl
theorem decode_lib (s:ByteArray) (i:Nat) (w:World) (hs:s.size≤1048576000) (hi:i < s.size) :
  Calls Tryz.prog 217 #[.string s,.int .i64 (i:Int)] w fun e w' => DecE (dec1 ((al s).drop i)) e∧w = w':=by
 obtain ⟨a,ha⟩:∃ a,s[i].toNat = a:=⟨_,rfl⟩
 have ha2:a < 256:=by rw [<- ha]; exact s[i].toNat_lt
 obtain ⟨R,hR⟩:=gX (dec1 ((al s).drop i))
 rw [<- hR]
 rw [bL s i hi,ha] at hR
 have hi0:(i:Int) < s.size:=by omega
 have hlen:lenB a = 0∨lenB a = 1∨lenB a = 2∨lenB a = 3∨lenB a = 4:=by
  unfold lenB
  repeat' split
  all_goals omega
 rcases hlen with hl | hl | hl | hl | hl
 ·have HV:Hid (R = none):=qH (by rw [hR,dec1_zero hl])
  have HL:=qH hl
  clear hl hR
  go_enter Tryz.func217,Tryz.ntmps217
  go_wp2_with fail
  refine (tail_lib a _).mono ?_
  rw [HL.out]
  rintro e w1 ⟨rfl,rfl⟩
  go_wp2_with fail
  go_ret3
  exact ⟨DecE.no HV.out,rfl⟩
 ·have HV:Hid (R = some (a,1)):=qH (by rw [hR,dec1_one hl])
  have HL:=qH hl
  clear hl hR
  go_enter Tryz.func217,Tryz.ntmps217
  go_wp2_with fail
  refine (tail_lib a _).mono ?_
  rw [HL.out]
  rintro e w1 ⟨rfl,rfl⟩
  go_wp2_with fail
  go_ret3
  exact ⟨DecE.yes HV.out rfl rfl,rfl⟩
 ·have HR:Hid (R = (decR (a % 32) (lowB a) (bi a) 1 ((al s).drop (i + 1))).map fun p => (p,2)):=qH (by rw [hR,dec1_two hl])
  have HL:=qH hl
  have hmask:bits BinOp.and IntKind.i64 (a:Int) 31 = ((a % 32:Nat):Int):=and_mask a 5 31 ha2 rfl (by omega)
  have HLO:Hid (128≤lowB a):=qH (by unfold lowB; (repeat' split) <;> omega)
  have HHI:Hid (bi a≤191):=qH (by unfold bi; (repeat' split) <;> omega)
  obtain ⟨b0,hb0⟩:=gX (a % 32)
  rw [<- hb0] at hmask HR
  have HB:Hid (b0 < 32):=qH (by omega)
  clear hl hR hb0
  go_enter Tryz.func217,Tryz.ntmps217
  go_wp2_with fail
  refine (tail_lib a _).mono ?_
  rw [HL.out]
  rintro e w1 ⟨rfl,rfl⟩
  obtain ⟨lo0,hlo0⟩:=gX (lowB a)
  obtain ⟨hi0',hhi0⟩:=gX (bi a)
  rw [<- hlo0] at HR HLO ⊢
  rw [<- hhi0] at HR HHI ⊢
  clear hlo0 hhi0
  go_wp2_with fail
  go_loop [4,5,8,9] (fun pv kv lv hv => ∃ acc k lo hi:Nat,1≤k∧k≤2∧pv = .int .i64 acc∧kv = .int .i64 k∧lv = .int .u8 lo∧hv = .int .u8 hi∧Hid (k = 1∧acc < 32∨k = 2∧acc < 2048∨k = 3∧acc < 131072∨k = 4)∧Hid (128≤lo∧hi≤191)∧Hid (R = (decR acc lo hi (2 - k) ((al s).drop (i + k))).map fun p => (p,2))) (fun _ kv _ _ => 2 - (intOf kv).toNat)
  case atStart => exact ⟨b0,1,lo0,hi0',by omega,by omega,rfl,rfl,rfl,rfl,qH (Or.inl ⟨rfl,HB.out⟩),qH ⟨HLO.out,HHI.out⟩,HR⟩
  obtain ⟨acc,k,lo,hi',hk1,hk2,rfl,rfl,rfl,rfl,HA,HLH,HK⟩:=hrel
  clear HR HB HLO HHI HL hmask
  by_cases hlt:k < 2
  ·have e1:IntKind.i64.wrap ((i:Int) + k) = (i:Int) + k:=IntWalk.i64_in _ (by omega)
   by_cases hsz:i + k < s.size
   ·have q1:decide ((s.size:Int)≤(i:Int) + k) = false:=by simp; omega
    have p1:0≤(i:Int) + k:=by omega
    have t1:((i:Int) + k).toNat = i + k:=by omega
    have g1:(i:Int) + k < s.size:=by omega
    obtain ⟨b,hb⟩:∃ b,s[i + k].toNat = b:=⟨_,rfl⟩
    have hb2:b < 256:=by rw [<- hb]; exact s[i + k].toNat_lt
    have HD:Hid (R = (if lo≤b∧b≤hi' then decR (acc * 64 + (b - 128)) 128 191 (2 - (k + 1)) ((al s).drop (i + (k + 1))) else none).map fun p => (p,2)):=qH (by
     rw [HK.out,bL s (i + k) hsz,hb,show 2 - k = (2 - (k + 1)) + 1 by omega]; rfl)
    clear HK
    by_cases h1:b < lo
    ·have d1:decide ((b:Int) < lo) = true:=by simp; omega
     have HV:Hid (R = none):=qH (by rw [HD.out,if_neg (by omega)]; rfl)
     go_wp2_with fail
     go_ret3
     exact ⟨DecE.no HV.out,rfl⟩
    have d1:decide ((b:Int) < lo) = false:=by simp; omega
    by_cases h2:hi' < b
    ·have d2:decide ((hi':Int) < b) = true:=by simp; omega
     have HV:Hid (R = none):=qH (by rw [HD.out,if_neg (by omega)]; rfl)
     go_wp2_with fail
     go_ret3
     exact ⟨DecE.no HV.out,rfl⟩
    have d2:decide ((hi':Int) < b) = false:=by simp; omega
    have hacc:acc < 131072:=by have:=HA.out; omega
    have hbm:b - 128 = b % 64:=by have:=HLH.out; omega
    have HV:Hid (R = (decR (acc * 64 + b % 64) 128 191 (2 - (k + 1)) ((al s).drop (i + (k + 1)))).map fun p => (p,2)):=qH (by rw [HD.out,if_pos (by omega),hbm])
    have m1:bits BinOp.and IntKind.i64 (b:Int) 63 = ((b % 64:Nat):Int):=and_mask b 6 63 hb2 rfl (by omega)
    have sh:IntKind.i64.wrap ((acc:Int) * 64) = ((acc * 64:Nat):Int):=IntWalk.i64_in _ (by omega)
    have sh2:wrap64 ((acc:Int) * 64) = ((acc * 64:Nat):Int):=IntWalk.wrap64_in _ (by omega)
    have ho:=or_six acc (b % 64) (by omega) (by omega)
    have ek:IntKind.i64.wrap ((k:Int) + 1) = (k:Int) + 1:=IntWalk.i64_in _ (by omega)
    have HA2:Hid (k + 1 = 1∧acc * 64 + b % 64 < 32∨k + 1 = 2∧acc * 64 + b % 64 < 2048∨k + 1 = 3∧acc * 64 + b % 64 < 131072∨k + 1 = 4):=qH (by have:=HA.out; omega)
    obtain ⟨r0,hr0⟩:=gX (acc * 64 + b % 64)
    rw [<- hr0] at ho HV HA2
    obtain ⟨c0,hc0⟩:=gX (acc * 64)
    rw [<- hc0] at ho sh sh2
    obtain ⟨d0,hd0⟩:=gX (b % 64)
    rw [<- hd0] at ho m1
    clear hbm hr0 hc0 hd0 HD HA hacc
    go_wp2_with fail
    go_round
    case rel => exact ⟨r0,k + 1,128,191,by omega,by omega,by go_num,by go_num,rfl,rfl,HA2,qH (by omega),HV⟩
    simp [intOf]; omega
   have q1:decide ((s.size:Int)≤(i:Int) + k) = true:=by simp; omega
   have HV:Hid (R = none):=qH (by
    rw [HK.out,List.drop_eq_nil_of_le (by rw [aE]; omega),show 2 - k = (2 - (k + 1)) + 1 by omega]; rfl)
   clear hsz HK
   go_wp2_with fail
   go_ret3
   exact ⟨DecE.no HV.out,rfl⟩
  have hk:k = 2:=by omega
  subst hk
  have HV:Hid (R = some (acc,2)):=qH HK.out
  clear hlt HK
  go_wp2_with fail
  go_ret3
  exact ⟨DecE.yes HV.out rfl rfl,rfl⟩
 ·have HR:Hid (R = (decR (a % 16) (lowB a) (bi a) 2 ((al s).drop (i + 1))).map fun p => (p,3)):=qH (by rw [hR,dec1_three hl])
  have HL:=qH hl
  have hmask:bits BinOp.and IntKind.i64 (a:Int) 15 = ((a % 16:Nat):Int):=and_mask a 4 15 ha2 rfl (by omega)
  have HLO:Hid (128≤lowB a):=qH (by unfold lowB; (repeat' split) <;> omega)
  have HHI:Hid (bi a≤191):=qH (by unfold bi; (repeat' split) <;> omega)
  obtain ⟨b0,hb0⟩:=gX (a % 16)
  rw [<- hb0] at hmask HR
  have HB:Hid (b0 < 32):=qH (by omega)
  clear hl hR hb0
  go_enter Tryz.func217,Tryz.ntmps217
  go_wp2_with fail
  refine (tail_lib a _).mono ?_
  rw [HL.out]
  rintro e w1 ⟨rfl,rfl⟩
  obtain ⟨lo0,hlo0⟩:=gX (lowB a)
  obtain ⟨hi0',hhi0⟩:=gX (bi a)
  rw [<- hlo0] at HR HLO ⊢
  rw [<- hhi0] at HR HHI ⊢
  clear hlo0 hhi0
  go_wp2_with fail
  go_loop [4,5,8,9] (fun pv kv lv hv => ∃ acc k lo hi:Nat,1≤k∧k≤3∧pv = .int .i64 acc∧kv = .int .i64 k∧lv = .int .u8 lo∧hv = .int .u8 hi∧Hid (k = 1∧acc < 32∨k = 2∧acc < 2048∨k = 3∧acc < 131072∨k = 4)∧Hid (128≤lo∧hi≤191)∧Hid (R = (decR acc lo hi (3 - k) ((al s).drop (i + k))).map fun p => (p,3))) (fun _ kv _ _ => 3 - (intOf kv).toNat)
  case atStart => exact ⟨b0,1,lo0,hi0',by omega,by omega,rfl,rfl,rfl,rfl,qH (Or.inl ⟨rfl,HB.out⟩),qH ⟨HLO.out,HHI.out⟩,HR⟩
  obtain ⟨acc,k,lo,hi',hk1,hk2,rfl,rfl,rfl,rfl,HA,HLH,HK⟩:=hrel
  clear HR HB HLO HHI HL hmask
  by_cases hlt:k < 3
  ·have e1:IntKind.i64.wrap ((i:Int) + k) = (i:Int) + k:=IntWalk.i64_in _ (by omega)
   by_cases hsz:i + k < s.size
   ·have q1:decide ((s.size:Int)≤(i:Int) + k) = false:=by simp; omega
    have p1:0≤(i:Int) + k:=by omega
    have t1:((i:Int) + k).toNat = i + k:=by omega
    have g1:(i:Int) + k < s.size:=by omega
    obtain ⟨b,hb⟩:∃ b,s[i + k].toNat = b:=⟨_,rfl⟩
    have hb2:b < 256:=by rw [<- hb]; exact s[i + k].toNat_lt
    have HD:Hid (R = (if lo≤b∧b≤hi' then decR (acc * 64 + (b - 128)) 128 191 (3 - (k + 1)) ((al s).drop (i + (k + 1))) else none).map fun p => (p,3)):=qH (by
     rw [HK.out,bL s (i + k) hsz,hb,show 3 - k = (3 - (k + 1)) + 1 by omega]; rfl)
    clear HK
    by_cases h1:b < lo
    ·have d1:decide ((b:Int) < lo) = true:=by simp; omega
     have HV:Hid (R = none):=qH (by rw [HD.out,if_neg (by omega)]; rfl)
     go_wp2_with fail
     go_ret3
     exact ⟨DecE.no HV.out,rfl⟩
    have d1:decide ((b:Int) < lo) = false:=by simp; omega
    by_cases h2:hi' < b
    ·have d2:decide ((hi':Int) < b) = true:=by simp; omega
     have HV:Hid (R = none):=qH (by rw [HD.out,if_neg (by omega)]; rfl)
     go_wp2_with fail
     go_ret3
     exact ⟨DecE.no HV.out,rfl⟩
    have d2:decide ((hi':Int) < b) = false:=by simp; omega
    have hacc:acc < 131072:=by have:=HA.out; omega
    have hbm:b - 128 = b % 64:=by have:=HLH.out; omega
    have HV:Hid (R = (decR (acc * 64 + b % 64) 128 191 (3 - (k + 1)) ((al s).drop (i + (k + 1)))).map fun p => (p,3)):=qH (by rw [HD.out,if_pos (by omega),hbm])
    have m1:bits BinOp.and IntKind.i64 (b:Int) 63 = ((b % 64:Nat):Int):=and_mask b 6 63 hb2 rfl (by omega)
    have sh:IntKind.i64.wrap ((acc:Int) * 64) = ((acc * 64:Nat):Int):=IntWalk.i64_in _ (by omega)
    have sh2:wrap64 ((acc:Int) * 64) = ((acc * 64:Nat):Int):=IntWalk.wrap64_in _ (by omega)
    have ho:=or_six acc (b % 64) (by omega) (by omega)
    have ek:IntKind.i64.wrap ((k:Int) + 1) = (k:Int) + 1:=IntWalk.i64_in _ (by omega)
    have HA2:Hid (k + 1 = 1∧acc * 64 + b % 64 < 32∨k + 1 = 2∧acc * 64 + b % 64 < 2048∨k + 1 = 3∧acc * 64 + b % 64 < 131072∨k + 1 = 4):=qH (by have:=HA.out; omega)
    obtain ⟨r0,hr0⟩:=gX (acc * 64 + b % 64)
    rw [<- hr0] at ho HV HA2
    obtain ⟨c0,hc0⟩:=gX (acc * 64)
    rw [<- hc0] at ho sh sh2
    obtain ⟨d0,hd0⟩:=gX (b % 64)
    rw [<- hd0] at ho m1
    clear hbm hr0 hc0 hd0 HD HA hacc
    go_wp2_with fail
    go_round
    case rel => exact ⟨r0,k + 1,128,191,by omega,by omega,by go_num,by go_num,rfl,rfl,HA2,qH (by omega),HV⟩
    simp [intOf]; omega
   have q1:decide ((s.size:Int)≤(i:Int) + k) = true:=by simp; omega
   have HV:Hid (R = none):=qH (by
    rw [HK.out,List.drop_eq_nil_of_le (by rw [aE]; omega),show 3 - k = (3 - (k + 1)) + 1 by omega]; rfl)
   clear hsz HK
   go_wp2_with fail
   go_ret3
   exact ⟨DecE.no HV.out,rfl⟩
  have hk:k = 3:=by omega
  subst hk
  have HV:Hid (R = some (acc,3)):=qH HK.out
  clear hlt HK
  go_wp2_with fail
  go_ret3
  exact ⟨DecE.yes HV.out rfl rfl,rfl⟩
 have HR:Hid (R = (decR (a % 8) (lowB a) (bi a) 3 ((al s).drop (i + 1))).map fun p => (p,4)):=qH (by rw [hR,dec1_four hl])
 have HL:=qH hl
 have hmask:bits BinOp.and IntKind.i64 (a:Int) 7 = ((a % 8:Nat):Int):=and_mask a 3 7 ha2 rfl (by omega)
 have HLO:Hid (128≤lowB a):=qH (by unfold lowB; (repeat' split) <;> omega)
 have HHI:Hid (bi a≤191):=qH (by unfold bi; (repeat' split) <;> omega)
 obtain ⟨b0,hb0⟩:=gX (a % 8)
 rw [<- hb0] at hmask HR
 have HB:Hid (b0 < 32):=qH (by omega)
 clear hl hR hb0
 go_enter Tryz.func217,Tryz.ntmps217
 go_wp2_with fail
 refine (tail_lib a _).mono ?_
 rw [HL.out]
 rintro e w1 ⟨rfl,rfl⟩
 obtain ⟨lo0,hlo0⟩:=gX (lowB a)
 obtain ⟨hi0',hhi0⟩:=gX (bi a)
 rw [<- hlo0] at HR HLO ⊢
 rw [<- hhi0] at HR HHI ⊢
 clear hlo0 hhi0
 go_wp2_with fail
 go_loop [4,5,8,9] (fun pv kv lv hv => ∃ acc k lo hi:Nat,1≤k∧k≤4∧pv = .int .i64 acc∧kv = .int .i64 k∧lv = .int .u8 lo∧hv = .int .u8 hi∧Hid (k = 1∧acc < 32∨k = 2∧acc < 2048∨k = 3∧acc < 131072∨k = 4)∧Hid (128≤lo∧hi≤191)∧Hid (R = (decR acc lo hi (4 - k) ((al s).drop (i + k))).map fun p => (p,4))) (fun _ kv _ _ => 4 - (intOf kv).toNat)
 case atStart => exact ⟨b0,1,lo0,hi0',by omega,by omega,rfl,rfl,rfl,rfl,qH (Or.inl ⟨rfl,HB.out⟩),qH ⟨HLO.out,HHI.out⟩,HR⟩
 obtain ⟨acc,k,lo,hi',hk1,hk2,rfl,rfl,rfl,rfl,HA,HLH,HK⟩:=hrel
 clear HR HB HLO HHI HL hmask
 by_cases hlt:k < 4
 ·have e1:IntKind.i64.wrap ((i:Int) + k) = (i:Int) + k:=IntWalk.i64_in _ (by omega)
  by_cases hsz:i + k < s.size
  ·have q1:decide ((s.size:Int)≤(i:Int) + k) = false:=by simp; omega
   have p1:0≤(i:Int) + k:=by omega
   have t1:((i:Int) + k).toNat = i + k:=by omega
   have g1:(i:Int) + k < s.size:=by omega
   obtain ⟨b,hb⟩:∃ b,s[i + k].toNat = b:=⟨_,rfl⟩
   have hb2:b < 256:=by rw [<- hb]; exact s[i + k].toNat_lt
   have HD:Hid (R = (if lo≤b∧b≤hi' then decR (acc * 64 + (b - 128)) 128 191 (4 - (k + 1)) ((al s).drop (i + (k + 1))) else none).map fun p => (p,4)):=qH (by
    rw [HK.out,bL s (i + k) hsz,hb,show 4 - k = (4 - (k + 1)) + 1 by omega]; rfl)
   clear HK
   by_cases h1:b < lo
   ·have d1:decide ((b:Int) < lo) = true:=by simp; omega
    have HV:Hid (R = none):=qH (by rw [HD.out,if_neg (by omega)]; rfl)
    go_wp2_with fail
    go_ret3
    exact ⟨DecE.no HV.out,rfl⟩
   have d1:decide ((b:Int) < lo) = false:=by simp; omega
   by_cases h2:hi' < b
   ·have d2:decide ((hi':Int) < b) = true:=by simp; omega
    have HV:Hid (R = none):=qH (by rw [HD.out,if_neg (by omega)]; rfl)
    go_wp2_with fail
    go_ret3
    exact ⟨DecE.no HV.out,rfl⟩
   have d2:decide ((hi':Int) < b) = false:=by simp; omega
   have hacc:acc < 131072:=by have:=HA.out; omega
   have hbm:b - 128 = b % 64:=by have:=HLH.out; omega
   have HV:Hid (R = (decR (acc * 64 + b % 64) 128 191 (4 - (k + 1)) ((al s).drop (i + (k + 1)))).map fun p => (p,4)):=qH (by rw [HD.out,if_pos (by omega),hbm])
   have m1:bits BinOp.and IntKind.i64 (b:Int) 63 = ((b % 64:Nat):Int):=and_mask b 6 63 hb2 rfl (by omega)
   have sh:IntKind.i64.wrap ((acc:Int) * 64) = ((acc * 64:Nat):Int):=IntWalk.i64_in _ (by omega)
   have sh2:wrap64 ((acc:Int) * 64) = ((acc * 64:Nat):Int):=IntWalk.wrap64_in _ (by omega)
   have ho:=or_six acc (b % 64) (by omega) (by omega)
   have ek:IntKind.i64.wrap ((k:Int) + 1) = (k:Int) + 1:=IntWalk.i64_in _ (by omega)
   have HA2:Hid (k + 1 = 1∧acc * 64 + b % 64 < 32∨k + 1 = 2∧acc * 64 + b % 64 < 2048∨k + 1 = 3∧acc * 64 + b % 64 < 131072∨k + 1 = 4):=qH (by have:=HA.out; omega)
   obtain ⟨r0,hr0⟩:=gX (acc * 64 + b % 64)
   rw [<- hr0] at ho HV HA2
   obtain ⟨c0,hc0⟩:=gX (acc * 64)
   rw [<- hc0] at ho sh sh2
   obtain ⟨d0,hd0⟩:=gX (b % 64)
   rw [<- hd0] at ho m1
   clear hbm hr0 hc0 hd0 HD HA hacc
   go_wp2_with fail
   go_round
   case rel => exact ⟨r0,k + 1,128,191,by omega,by omega,by go_num,by go_num,rfl,rfl,HA2,qH (by omega),HV⟩
   simp [intOf]; omega
  have q1:decide ((s.size:Int)≤(i:Int) + k) = true:=by simp; omega
  have HV:Hid (R = none):=qH (by
   rw [HK.out,List.drop_eq_nil_of_le (by rw [aE]; omega),show 4 - k = (4 - (k + 1)) + 1 by omega]; rfl)
  clear hsz HK
  go_wp2_with fail
  go_ret3
  exact ⟨DecE.no HV.out,rfl⟩
 have hk:k = 4:=by omega
 subst hk
 have HV:Hid (R = some (acc,4)):=qH HK.out
 clear hlt HK
 go_wp2_with fail
 go_ret3
 exact ⟨DecE.yes HV.out rfl rfl,rfl⟩
theorem drop_ne {s:ByteArray} {k:Nat} (h:k < s.size):(al s).drop k≠[]:=by rw [bL s k h]; exact List.cons_ne_nil _ _
theorem dec_in {s:ByteArray} {k p n:Nat} (h:k < s.size) (hd:dec1 ((al s).drop k) = some (p,n)):1≤n∧k + n≤s.size∧n≤4∧p≤1114111:=by
 obtain ⟨h1,h2,h3⟩:=dec1_size hd
 rw [List.length_drop,aE] at h2
 exact ⟨h1,by omega,h3,dec1_lt (fun b hb => bytesN_lt s b (List.mem_of_mem_drop hb)) hd⟩
theorem pts_step {s:ByteArray} {k p n:Nat} (hd:dec1 ((al s).drop k) = some (p,n)):(pts ((al s).drop k)).isSome = (pts ((al s).drop (k + n))).isSome:=by
 rw [pts_cons hd,List.drop_drop,Option.isSome_map]
theorem first_lib (s:ByteArray) (w:World) (hs:s.size≤1048576000) :
  Calls Tryz.prog 207 #[.string s] w fun e w' => (∃ x:Int,e = .returned (.int .i64 x)∧(if x < 0 then true else false) = (pts (al s)).isSome)∧w = w':=by
 obtain ⟨V,hV⟩:=gX ((pts (al s)).isSome)
 have HV:Hid (V = (pts ((al s).drop 0)).isSome):=qH hV
 rw [<- hV]
 clear hV
 go_enter Tryz.func207,Tryz.ntmps207
 go_wp2_with fail
 go_loop [3] (fun kv => ∃ k:Nat,k≤s.size∧kv = .int .i64 k∧Hid (V = (pts ((al s).drop k)).isSome)) (fun kv => s.size - (intOf kv).toNat)
 case atStart => exact ⟨0,by omega,rfl,HV⟩
 obtain ⟨k,hk,rfl,HK⟩:=hrel
 clear HV
 by_cases hlt:k < s.size
 ·go_wp2_with fail
  refine (decode_lib s k _ hs hlt).mono ?_
  rintro e w1 ⟨hd,rfl⟩
  cases hR:dec1 ((al s).drop k) with
  | none =>
   rw [hR] at hd
   obtain ⟨x,y,rfl⟩:=hd
   have HF:Hid (V = false):=qH (by rw [HK.out,pts_bad hR (drop_ne hlt)]; rfl)
   clear hR HK
   go_wp2_with fail
   go_ret
   exact ⟨⟨_,rfl,by rw [HF.out,if_neg (by omega)]⟩,rfl⟩
  | some R =>
   obtain ⟨p,n⟩:=R
   rw [hR] at hd
   have he:e = .returned (.tuple #[.int .i64 (p:Int),.int .i64 (n:Int),.bool true]):=hd
   clear hd
   subst he
   obtain ⟨n1,n2,n3,n4⟩:=dec_in hlt hR
   have HN:Hid (V = (pts ((al s).drop (k + n))).isSome):=qH (by rw [HK.out,pts_step hR])
   clear hR HK
   have e1:IntKind.i64.wrap ((k:Int) + n) = (k:Int) + n:=IntWalk.i64_in _ (by omega)
   go_wp2_with fail
   go_round
   case rel => exact ⟨k + n,by omega,by go_num,HN⟩
   simp [intOf]; omega
 have HF:Hid (V = true):=qH (by rw [HK.out,List.drop_eq_nil_of_le (by rw [aE]; omega),pts_nil]; rfl)
 clear HK
 go_wp2_with fail
 go_ret
 exact ⟨⟨_,rfl,by rw [HF.out]; rfl⟩,rfl⟩
theorem valid_lib (s:ByteArray) (w:World) (hs:s.size≤1048576000) :
  Calls Tryz.prog 186 #[.string s] w fun e w' => e = .returned (.bool (pts (al s)).isSome)∧w = w':=by
 have hf:=first_lib s w hs
 obtain ⟨V,hV⟩:=gX ((pts (al s)).isSome)
 rw [<- hV] at hf ⊢
 clear hV
 go_enter Tryz.func186,Tryz.ntmps186
 go_wp2_with fail
 refine hf.mono ?_
 clear hf
 rintro e w1 ⟨⟨x,rfl,hx⟩,rfl⟩
 by_cases h0:x < 0
 ·rw [if_pos h0] at hx
  subst hx
  go_wp2_with fail
  go_ret
  exact ⟨rfl,rfl⟩
 rw [if_neg h0] at hx
 subst hx
 go_wp2_with fail
 go_ret
 exact ⟨ret_bool (by simp; omega),rfl⟩
end Go.Proofs.YtmhhcfceikcfbaaGreat
