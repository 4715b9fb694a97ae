/- Walks: the table of keys; what a key is. -/
import Derived.Laws.ResultCell
import Derived.Laws.Shifts
import Derived.Test.YtmhhcfceikcfbaaGreatDeQ1
namespace Go.Proofs.YtmhhcfceikcfbaaGreat
open Go.RowKit
set_option maxRecDepth 100000
set_option maxHeartbeats 4000000
abbrev Ky:=Int × Int × Int × Int × Int × ByteArray
def kyV (x:Ky):List Value:=[.int .i64 x.1,.int .i64 x.2.1,.int .i64 x.2.2.1,.int .i64 x.2.2.2.1,.int .i64 x.2.2.2.2.1,.string x.2.2.2.2.2]
def kys:List Ky:=[
 (1,1,0,1073741824,0,⟨#[99,104,97,114,97,99,116,101,114,45,115,116,121,108,101]⟩),
 (2,1,0,1,0,⟨#[98,111,108,100]⟩),
 (3,1,0,1,0,⟨#[105,116,97,108,105,99]⟩),
 (4,1,0,3,0,⟨#[117,110,100,101,114,108,105,110,101]⟩),
 (5,1,2,1638,22,⟨#[115,105,122,101]⟩),
 (6,1,0,16777215,0,⟨#[99,111,108,111,114]⟩),
 (7,1,0,63,0,⟨#[102,111,110,116]⟩),
 (8,1,0,255,0,⟨#[108,97,110,103,117,97,103,101]⟩),
 (9,1,-400,400,0,⟨#[114,97,105,115,101]⟩),
 (10,1,0,1,0,⟨#[104,105,100,100,101,110]⟩),
 (20,2,0,1073741824,0,⟨#[112,97,114,97,103,114,97,112,104,45,115,116,121,108,101]⟩),
 (21,2,0,3,0,⟨#[97,108,105,103,110]⟩),
 (22,2,-31680,31680,0,⟨#[108,101,102,116]⟩),
 (23,2,-31680,31680,0,⟨#[114,105,103,104,116]⟩),
 (24,2,-31680,31680,0,⟨#[102,105,114,115,116]⟩),
 (25,2,0,31680,0,⟨#[98,101,102,111,114,101]⟩),
 (26,2,0,31680,0,⟨#[97,102,116,101,114]⟩),
 (27,2,0,31680,0,⟨#[108,101,97,100,105,110,103]⟩),
 (28,2,0,1,0,⟨#[107,101,101,112,45,110,101,120,116]⟩),
 (29,2,0,1,0,⟨#[107,101,101,112,45,108,105,110,101,115]⟩),
 (30,2,0,1,1,⟨#[119,105,100,111,119]⟩),
 (31,2,0,1,0,⟨#[112,97,103,101,45,98,101,102,111,114,101]⟩),
 (32,2,0,9,0,⟨#[111,117,116,108,105,110,101]⟩),
 (33,2,0,1073741824,0,⟨#[108,105,115,116]⟩),
 (34,2,1,9,1,⟨#[108,101,118,101,108]⟩),
 (35,2,0,32767,0,⟨#[114,101,115,116,97,114,116]⟩),
 (36,2,1,31680,720,⟨#[116,97,98,45,115,116,111,112]⟩),
 (37,2,0,1,0,⟨#[104,121,112,104,101,110,97,116,101]⟩),
 (40,3,720,31680,12240,⟨#[112,97,103,101,45,119,105,100,116,104]⟩),
 (41,3,720,31680,15840,⟨#[112,97,103,101,45,104,101,105,103,104,116]⟩),
 (42,3,0,31680,1440,⟨#[116,111,112]⟩),
 (43,3,0,31680,1440,⟨#[98,111,116,116,111,109]⟩),
 (44,3,0,31680,1440,⟨#[105,110,110,101,114]⟩),
 (45,3,0,31680,1440,⟨#[111,117,116,101,114]⟩),
 (46,3,0,32767,0,⟨#[102,105,114,115,116,45,112,97,103,101]⟩),
 (47,3,1,6,1,⟨#[112,97,103,101,45,102,111,114,109,97,116]⟩),
 (50,4,0,1,0,⟨#[104,101,97,100,101,114]⟩),
 (51,4,0,1,0,⟨#[99,97,110,116,45,115,112,108,105,116]⟩),
 (52,4,0,31680,0,⟨#[114,111,119,45,104,101,105,103,104,116]⟩),
 (60,5,1,32,1,⟨#[99,111,108,117,109,110,45,115,112,97,110]⟩),
 (61,5,0,2,0,⟨#[118,101,114,116,105,99,97,108,45,109,101,114,103,101]⟩),
 (62,5,0,31680,0,⟨#[99,101,108,108,45,119,105,100,116,104]⟩),
 (63,5,0,16777215,16777215,⟨#[115,104,97,100,101]⟩),
 (70,6,0,31680,0,⟨#[116,97,98,108,101,45,119,105,100,116,104]⟩),
 (71,6,0,2,0,⟨#[116,97,98,108,101,45,97,108,105,103,110]⟩)]
theorem kys_len:kys.length = 45:=rfl
theorem info279:(Tryz.prog.info? 279).map (·.size) = some 6:=by kernel_rfl
theorem table218 (w:World):Calls Tryz.prog 218 #[] w fun e w' => e = .returned (.slice (some ⟨w.heap.size,0,none⟩) 45 45)∧w' = w.alloc (.cells (kys.flatMap kyV).toArray 279):=by
 go_enter Tryz.func218,Tryz.ntmps218
 go_upto_region 1 with fail
 refine ac (by rfl) ?_
 simp only [List.map]
 refine sq1 (.agg (kyV (kys.getD 0 (0,0,0,0,0,⟨#[]⟩))).toArray) ?_ (by kernel_rfl)
 refine sq1 (.agg (kyV (kys.getD 1 (0,0,0,0,0,⟨#[]⟩))).toArray) ?_ (by kernel_rfl)
 refine sq1 (.agg (kyV (kys.getD 2 (0,0,0,0,0,⟨#[]⟩))).toArray) ?_ (by kernel_rfl)
 refine sq1 (.agg (kyV (kys.getD 3 (0,0,0,0,0,⟨#[]⟩))).toArray) ?_ (by kernel_rfl)
 refine sq1 (.agg (kyV (kys.getD 4 (0,0,0,0,0,⟨#[]⟩))).toArray) ?_ (by kernel_rfl)
 refine sq1 (.agg (kyV (kys.getD 5 (0,0,0,0,0,⟨#[]⟩))).toArray) ?_ (by kernel_rfl)
 refine sq1 (.agg (kyV (kys.getD 6 (0,0,0,0,0,⟨#[]⟩))).toArray) ?_ (by kernel_rfl)
 refine sq1 (.agg (kyV (kys.getD 7 (0,0,0,0,0,⟨#[]⟩))).toArray) ?_ (by kernel_rfl)
 refine sq1 (.agg (kyV (kys.getD 8 (0,0,0,0,0,⟨#[]⟩))).toArray) ?_ (by kernel_rfl)
 refine sq1 (.agg (kyV (kys.getD 9 (0,0,0,0,0,⟨#[]⟩))).toArray) ?_ (by kernel_rfl)
 refine sq1 (.agg (kyV (kys.getD 10 (0,0,0,0,0,⟨#[]⟩))).toArray) ?_ (by kernel_rfl)
 refine sq1 (.agg (kyV (kys.getD 11 (0,0,0,0,0,⟨#[]⟩))).toArray) ?_ (by kernel_rfl)
 refine sq1 (.agg (kyV (kys.getD 12 (0,0,0,0,0,⟨#[]⟩))).toArray) ?_ (by kernel_rfl)
 refine sq1 (.agg (kyV (kys.getD 13 (0,0,0,0,0,⟨#[]⟩))).toArray) ?_ (by kernel_rfl)
 refine sq1 (.agg (kyV (kys.getD 14 (0,0,0,0,0,⟨#[]⟩))).toArray) ?_ (by kernel_rfl)
 refine sq1 (.agg (kyV (kys.getD 15 (0,0,0,0,0,⟨#[]⟩))).toArray) ?_ (by kernel_rfl)
 refine sq1 (.agg (kyV (kys.getD 16 (0,0,0,0,0,⟨#[]⟩))).toArray) ?_ (by kernel_rfl)
 refine sq1 (.agg (kyV (kys.getD 17 (0,0,0,0,0,⟨#[]⟩))).toArray) ?_ (by kernel_rfl)
 refine sq1 (.agg (kyV (kys.getD 18 (0,0,0,0,0,⟨#[]⟩))).toArray) ?_ (by kernel_rfl)
 refine sq1 (.agg (kyV (kys.getD 19 (0,0,0,0,0,⟨#[]⟩))).toArray) ?_ (by kernel_rfl)
 refine sq1 (.agg (kyV (kys.getD 20 (0,0,0,0,0,⟨#[]⟩))).toArray) ?_ (by kernel_rfl)
 refine sq1 (.agg (kyV (kys.getD 21 (0,0,0,0,0,⟨#[]⟩))).toArray) ?_ (by kernel_rfl)
 refine sq1 (.agg (kyV (kys.getD 22 (0,0,0,0,0,⟨#[]⟩))).toArray) ?_ (by kernel_rfl)
 refine sq1 (.agg (kyV (kys.getD 23 (0,0,0,0,0,⟨#[]⟩))).toArray) ?_ (by kernel_rfl)
 refine sq1 (.agg (kyV (kys.getD 24 (0,0,0,0,0,⟨#[]⟩))).toArray) ?_ (by kernel_rfl)
 refine sq1 (.agg (kyV (kys.getD 25 (0,0,0,0,0,⟨#[]⟩))).toArray) ?_ (by kernel_rfl)
 refine sq1 (.agg (kyV (kys.getD 26 (0,0,0,0,0,⟨#[]⟩))).toArray) ?_ (by kernel_rfl)
 refine sq1 (.agg (kyV (kys.getD 27 (0,0,0,0,0,⟨#[]⟩))).toArray) ?_ (by kernel_rfl)
 refine sq1 (.agg (kyV (kys.getD 28 (0,0,0,0,0,⟨#[]⟩))).toArray) ?_ (by kernel_rfl)
 refine sq1 (.agg (kyV (kys.getD 29 (0,0,0,0,0,⟨#[]⟩))).toArray) ?_ (by kernel_rfl)
 refine sq1 (.agg (kyV (kys.getD 30 (0,0,0,0,0,⟨#[]⟩))).toArray) ?_ (by kernel_rfl)
 refine sq1 (.agg (kyV (kys.getD 31 (0,0,0,0,0,⟨#[]⟩))).toArray) ?_ (by kernel_rfl)
 refine sq1 (.agg (kyV (kys.getD 32 (0,0,0,0,0,⟨#[]⟩))).toArray) ?_ (by kernel_rfl)
 refine sq1 (.agg (kyV (kys.getD 33 (0,0,0,0,0,⟨#[]⟩))).toArray) ?_ (by kernel_rfl)
 refine sq1 (.agg (kyV (kys.getD 34 (0,0,0,0,0,⟨#[]⟩))).toArray) ?_ (by kernel_rfl)
 refine sq1 (.agg (kyV (kys.getD 35 (0,0,0,0,0,⟨#[]⟩))).toArray) ?_ (by kernel_rfl)
 refine sq1 (.agg (kyV (kys.getD 36 (0,0,0,0,0,⟨#[]⟩))).toArray) ?_ (by kernel_rfl)
 refine sq1 (.agg (kyV (kys.getD 37 (0,0,0,0,0,⟨#[]⟩))).toArray) ?_ (by kernel_rfl)
 refine sq1 (.agg (kyV (kys.getD 38 (0,0,0,0,0,⟨#[]⟩))).toArray) ?_ (by kernel_rfl)
 refine sq1 (.agg (kyV (kys.getD 39 (0,0,0,0,0,⟨#[]⟩))).toArray) ?_ (by kernel_rfl)
 refine sq1 (.agg (kyV (kys.getD 40 (0,0,0,0,0,⟨#[]⟩))).toArray) ?_ (by kernel_rfl)
 refine sq1 (.agg (kyV (kys.getD 41 (0,0,0,0,0,⟨#[]⟩))).toArray) ?_ (by kernel_rfl)
 refine sq1 (.agg (kyV (kys.getD 42 (0,0,0,0,0,⟨#[]⟩))).toArray) ?_ (by kernel_rfl)
 refine sq1 (.agg (kyV (kys.getD 43 (0,0,0,0,0,⟨#[]⟩))).toArray) ?_ (by kernel_rfl)
 refine sq1 (.agg (kyV (kys.getD 44 (0,0,0,0,0,⟨#[]⟩))).toArray) ?_ (by kernel_rfl)
 refine au (.slice (some ⟨w.heap.size,0,none⟩) 45 45) (w.alloc (.cells (kys.flatMap kyV).toArray 279)) (by kernel_rfl) trivial ?_
 simp only [Act.put,PutA,PutZ,PutS]
 refine a7 (.slice (some ⟨w.heap.size,0,none⟩) 45 45) (by kernel_rfl) trivial ?_
 simp only [Act.put,List.setIfInBounds_toArray,List.set_cons_zero]
 refine ad ?_
 go_wp2_with fail
 go_ret
 exact ⟨rfl,rfl⟩
def cmpI (a b:Int):Int:=if a < b then -1 else if b < a then 1 else 0
theorem cmpI_lt (a b:Int):cmpI a b < 0↔a < b:=by
 unfold cmpI
 by_cases h:a < b
 ·rw [if_pos h]; exact ⟨fun _ => h,fun _ => by decide⟩
 rw [if_neg h]
 constructor
 ·intro h2; split at h2 <;> omega
 intro h2; exact absurd h2 h
theorem cmpI_eq (a b:Int):cmpI a b = 0↔a = b:=by
 unfold cmpI
 by_cases h:a < b
 ·rw [if_pos h]; constructor <;> intro h2 <;> omega
 rw [if_neg h]
 by_cases h3:b < a
 ·rw [if_pos h3]; constructor <;> intro h2 <;> omega
 rw [if_neg h3]; constructor <;> intro h2 <;> omega
theorem isNaN228 (a:Int) (w:World):Calls Tryz.prog 228 #[.int .i64 a] w fun e w' => e = .returned (.bool false)∧w = w':=by
 go_enter Tryz.func228,Tryz.ntmps228
 go_wp2_with fail
 go_ret
 exact ⟨rfl,rfl⟩
theorem cmp221 (a b:Int) (w:World):Calls Tryz.prog 221 #[.int .i64 a,.int .i64 b] w fun e w' => e = .returned (.int .i64 (cmpI a b))∧w = w':=by
 by_cases h1:a < b
 ·have HV:=qH (show cmpI a b = -1 by unfold cmpI; rw [if_pos h1])
  have d1:decide (a < b) = true:=by simpa using h1
  go_enter Tryz.func221,Tryz.ntmps221
  go_wp2_with fail
  refine (isNaN228 a _).mono ?_
  rintro e w1 ⟨rfl,rfl⟩
  go_wp2_with fail
  refine (isNaN228 b _).mono ?_
  rintro e w1 ⟨rfl,rfl⟩
  go_wp2_with fail
  go_ret
  exact ⟨by rw [HV.out]; rfl,rfl⟩
 by_cases h2:b < a
 ·have HV:=qH (show cmpI a b = 1 by unfold cmpI; rw [if_neg h1,if_pos h2])
  have d1:decide (a < b) = false:=by simpa using h1
  have d2:decide (b < a) = true:=by simpa using h2
  go_enter Tryz.func221,Tryz.ntmps221
  go_wp2_with fail
  refine (isNaN228 a _).mono ?_
  rintro e w1 ⟨rfl,rfl⟩
  go_wp2_with fail
  refine (isNaN228 b _).mono ?_
  rintro e w1 ⟨rfl,rfl⟩
  go_wp2_with fail
  go_ret
  exact ⟨by rw [HV.out]; rfl,rfl⟩
 have HV:=qH (show cmpI a b = 0 by unfold cmpI; rw [if_neg h1,if_neg h2])
 have d1:decide (a < b) = false:=by simpa using h1
 have d2:decide (b < a) = false:=by simpa using h2
 go_enter Tryz.func221,Tryz.ntmps221
 go_wp2_with fail
 refine (isNaN228 a _).mono ?_
 rintro e w1 ⟨rfl,rfl⟩
 go_wp2_with fail
 refine (isNaN228 b _).mono ?_
 rintro e w1 ⟨rfl,rfl⟩
 go_wp2_with fail
 go_ret
 exact ⟨by rw [HV.out]; rfl,rfl⟩
theorem clo220 (x0 x1 x2 x3 x4:Int) (x5:ByteArray) (n:Int) (w:World):Calls Tryz.prog 220 #[.agg #[.int .i64 x0,.int .i64 x1,.int .i64 x2,.int .i64 x3,.int .i64 x4,.string x5],.int .i64 n] w fun e w' => e = .returned (.int .i64 (cmpI x0 n))∧Below w.heap.size w w':=by
 go_enter Tryz.func220,Tryz.ntmps220
 go_wp2_with fail
 refine (cmp221 x0 n _).mono ?_
 rintro e w1 ⟨rfl,rfl⟩
 go_wp2_with fail
 go_ret
 exact ⟨rfl,(Below.refl _ _).alloc (Nat.le_refl _) _⟩
theorem kys_sorted:kys.Pairwise fun x y => x.1 < y.1:=by decide +kernel
def KyPost (n i:Int) (b:Bool):Prop:=(b = true∧∃ (k:Nat) (x:Ky),i = k∧kys[k]? = some x∧x.1 = n)∨(b = false∧∀ x∈kys,x.1≠n)
def BsC (n:Int) (w:World) (e:Ending) (w':World):Prop:=∃ i b,e = .returned (.tuple #[.int .i64 i,.bool b])∧KyPost n i b∧Below w.heap.size w w'
def TabS (g:Nat) (w:World):Prop:=w.heap[g]? = some (.cells (kys.flatMap kyV).toArray 279 (0,0))
theorem kyV_len (x:Ky):(kyV x).length = 6:=rfl
theorem TabS.elt {g:Nat} {w:World} (h:TabS g w) {k:Nat} {x:Ky} (hx:kys[k]? = some x):EltS g (k * 6) (kyV x) w:=by
 intro j u hu
 rw [aa h (k * 6 + j)]
 rw [List.getElem?_toArray]
 exact flatMap_get kyV_len kys k x hx j u hu
theorem bsearch219 (g:Nat) (n:Int) (w:World) (hT:TabS g w) (hg:g < w.heap.size):Calls Tryz.prog 219 #[.slice (some ⟨g,0,none⟩) 45 45,.int .i64 n,.func (.func 220) #[] #[]] w (BsC n w):=by
 have HT:=qH hT
 have HG:=qH hg
 clear hT hg
 go_enter Tryz.func219,Tryz.ntmps219
 go_wp2_with fail
 go_loopw [9,10] (fun iv jv wr => ∃ i j:Nat,i≤j∧j≤45∧iv = .int .i64 i∧jv = .int .i64 j∧Hid (∀ (k:Nat) (x:Ky),kys[k]? = some x→(k < i→x.1 < n)∧(j≤k→n≤x.1))∧Hid (Below w.heap.size w wr)) (fun iv jv _ => (intOf jv).toNat - (intOf iv).toNat)
 case atStart => exact ⟨0,45,Nat.zero_le _,Nat.le_refl _,rfl,rfl,qH (fun k x hx => ⟨fun h => absurd h (Nat.not_lt_zero _),fun h => by
  have:=(List.getElem?_eq_some_iff.1 hx).1
  rw [kys_len] at this
  omega⟩),qH (Below.refl _ _)⟩
 obtain ⟨i,j,hij,hjn,rfl,rfl,HI,HB⟩:=hrel
 have HTr:Hid (TabS g wr):=qH ((HB.out.block _ HG.out).trans HT.out)
 by_cases hlt:i < j
 ·obtain ⟨m,hm⟩:=gX ((i + j) / 2)
  have hmi:i≤m:=by omega
  have hmj:m < j:=by omega
  obtain ⟨x,hx⟩:∃ x,kys[m]? = some x:=⟨kys[m]'(by rw [kys_len]; omega),by simp⟩
  have hE:=HTr.out.elt hx
  obtain ⟨x0,x1,x2,x3,x4,x5⟩:=x
  have z0:=hE 0 _ rfl
  have z1:=hE 1 _ rfl
  have z2:=hE 2 _ rfl
  have z3:=hE 3 _ rfl
  have z4:=hE 4 _ rfl
  have z5:=hE 5 _ rfl
  simp only [Nat.add_zero] at z0
  have e1:IntKind.i64.wrap ((i:Int) + (j:Int)) = (i:Int) + (j:Int):=IntWalk.i64_in _ (by omega)
  have e2:IntKind.u64.wrap ((i:Int) + (j:Int)) = (i:Int) + (j:Int):=IntWalk.u64_in _ (by omega)
  have e3:((i:Int) + (j:Int)) / 2 = (m:Int):=by omega
  have k4:(m:Int) < (45:Int):=by omega
  have e4:IntKind.i64.wrap (m:Int) = (m:Int):=IntWalk.i64_in _ (by omega)
  have HX:=qH hx
  clear hm hx hE
  have HCL:=qH (clo220 x0 x1 x2 x3 x4 x5 n wr)
  obtain ⟨z,hzz⟩:=gX (cmpI x0 n)
  have HLT:=qH (cmpI_lt x0 n)
  rw [<- hzz] at HCL HLT
  clear hzz
  by_cases hz:z < 0
  ·have hd:decide (z < 0) = true:=by simpa using hz
   have HN:Hid (∀ (k:Nat) (x:Ky),kys[k]? = some x→(k < m + 1→x.1 < n)∧(j≤k→n≤x.1)):=qH (fun k x hx => ⟨fun hk => by
    rcases Nat.lt_or_ge k m with h1 | h1
    ·have hp:=List.pairwise_iff_getElem.1 kys_sorted k m (List.getElem?_eq_some_iff.1 hx).1 (List.getElem?_eq_some_iff.1 HX.out).1 h1
     rw [(List.getElem?_eq_some_iff.1 hx).2,(List.getElem?_eq_some_iff.1 HX.out).2] at hp
     exact Int.lt_trans hp (HLT.out.1 hz)
    obtain rfl:k = m:=by omega
    rw [HX.out] at hx
    cases hx
    exact HLT.out.1 hz,(HI.out k x hx).2⟩)
   go_wp2_with fail
   refine HCL.out.mono ?_
   rintro e w2 ⟨rfl,hk2⟩
   have HB2:=qH (HB.out.trans (hk2.mono HB.out.size))
   clear e1 e2 e3 e4 HI HB HCL HLT HX z0 z1 z2 z3 z4 z5 hk2
   go_wp2_with fail
   exact ⟨⟨m + 1,j,by omega,hjn,by go_num,rfl,HN,HB2⟩,by simp [intOf]; omega⟩
  have hd:decide (z < 0) = false:=by simpa using hz
  have HN:Hid (∀ (k:Nat) (x:Ky),kys[k]? = some x→(k < i→x.1 < n)∧(m≤k→n≤x.1)):=qH (fun k x hx => ⟨(HI.out k x hx).1,fun hk => by
   have hz':n≤x0:=Int.not_lt.1 (fun q => hz (HLT.out.2 q))
   rcases Nat.lt_or_ge m k with h1 | h1
   ·have hp:=List.pairwise_iff_getElem.1 kys_sorted m k (List.getElem?_eq_some_iff.1 HX.out).1 (List.getElem?_eq_some_iff.1 hx).1 h1
    rw [(List.getElem?_eq_some_iff.1 hx).2,(List.getElem?_eq_some_iff.1 HX.out).2] at hp
    simp only at hp
    omega
   obtain rfl:k = m:=by omega
   rw [HX.out] at hx
   cases hx
   exact hz'⟩)
  go_wp2_with fail
  refine HCL.out.mono ?_
  rintro e w2 ⟨rfl,hk2⟩
  have HB2:=qH (HB.out.trans (hk2.mono HB.out.size))
  clear e1 e2 e3 e4 HI HB HCL HLT HX z0 z1 z2 z3 z4 z5 hk2
  go_wp2_with fail
  exact ⟨⟨i,m,hmi,by omega,rfl,rfl,HN,HB2⟩,by simp [intOf]; omega⟩
 obtain rfl:i = j:=by omega
 by_cases hin:i < 45
 ·obtain ⟨x,hx⟩:∃ x,kys[i]? = some x:=⟨kys[i]'(by rw [kys_len]; omega),by simp⟩
  have hE:=HTr.out.elt hx
  obtain ⟨x0,x1,x2,x3,x4,x5⟩:=x
  have z0:=hE 0 _ rfl
  have z1:=hE 1 _ rfl
  have z2:=hE 2 _ rfl
  have z3:=hE 3 _ rfl
  have z4:=hE 4 _ rfl
  have z5:=hE 5 _ rfl
  simp only [Nat.add_zero] at z0
  have hin':(i:Int) < 45:=by omega
  have HX:=qH hx
  have HCL:=qH (clo220 x0 x1 x2 x3 x4 x5 n wr)
  obtain ⟨z,hzz⟩:=gX (cmpI x0 n)
  have HEQ:=qH (cmpI_eq x0 n)
  rw [<- hzz] at HCL HEQ
  clear hzz hx hE
  go_wp2_with fail
  refine HCL.out.mono ?_
  rintro e w2 ⟨rfl,hk2⟩
  have HB2:=qH (HB.out.trans (hk2.mono HB.out.size))
  clear HB HCL z0 z1 z2 z3 z4 z5 hk2
  by_cases hz:z = 0
  ·have hd:(z == 0) = true:=by simpa using hz
   have HP:Hid (KyPost n (i:Int) true):=qH (.inl ⟨rfl,i,_,rfl,HX.out,HEQ.out.1 hz⟩)
   clear HEQ HX HI hz
   go_wp2_with fail
   go_ret2
   exact ⟨(i:Int),true,rfl,HP.out,HB2.out⟩
  have hd:(z == 0) = false:=by simpa using hz
  have HP:Hid (KyPost n (i:Int) false):=qH (.inr ⟨rfl,fun y hy he => by
   obtain ⟨k,hk⟩:=List.mem_iff_getElem?.1 hy
   obtain ⟨h1,h2⟩:=HI.out k y hk
   rcases Nat.lt_trichotomy k i with h | h | h
   ·have:=h1 h; omega
   ·subst h
    rw [HX.out] at hk
    cases hk
    exact hz (HEQ.out.2 he)
   have hp:=List.pairwise_iff_getElem.1 kys_sorted i k (List.getElem?_eq_some_iff.1 HX.out).1 (List.getElem?_eq_some_iff.1 hk).1 h
   rw [(List.getElem?_eq_some_iff.1 hk).2,(List.getElem?_eq_some_iff.1 HX.out).2] at hp
   have h3:=(HI.out i _ HX.out).2 (Nat.le_refl _)
   simp only at h3 hp
   omega⟩)
  clear HEQ HX HI
  go_wp2_with fail
  go_ret2
  exact ⟨(i:Int),false,rfl,HP.out,HB2.out⟩
 have hin':¬ (i:Int) < 45:=by omega
 have HP:Hid (KyPost n (i:Int) false):=qH (.inr ⟨rfl,fun y hy he => by
  obtain ⟨k,hk⟩:=List.mem_iff_getElem?.1 hy
  have hkl:=(List.getElem?_eq_some_iff.1 hk).1
  rw [kys_len] at hkl
  have:=(HI.out k y hk).1 (by omega)
  omega⟩)
 clear HI
 go_wp2_with fail
 go_ret2
 exact ⟨(i:Int),false,rfl,HP.out,HB.out⟩
end Go.Proofs.YtmhhcfceikcfbaaGreat
namespace Go.Proofs.YtmhhcfceikcfbaaGreat
open Go.RowKit
set_option maxRecDepth 100000
set_option maxHeartbeats 4000000
theorem bw {P:Program} {fn:Func} {p u:Tmp} {ty:TypeId} (h:fn.results = #[.cell p ty,.tmp u]) (tmps:Array Value) (w:World) (g:Nat) (t:TypeId) (cs:Array Value) (fr:Nat × Nat) (d:TypeDesc) (v2:Value) (hq:tmps.getD u undef = v2)
  (hp:tmps.getD p undef = .pointer (some ⟨g,0,none⟩)) (hg:w.heap[g]? = some (.cells cs t fr))
  (hu:P.underlying ty = some d) (hd:(match d with | .struct _ | .array _ _ => true | _ => false) = true) (hi:(P.info? ty).map (·.size) = some cs.size) :
  (results fn tmps).run P w = .ok (.tuple #[.agg cs,v2]) w:=by
 rw [results_cell_tmp h,hp,hq]
 have e1:(asAddr (.pointer (some ⟨g,0,none⟩))).run P w = .ok ⟨g,0,none⟩ w:=rfl
 rw [e1,Result.andThen_ok,run_loadVar_row w g t ty cs fr d hg hu hd hi,Result.andThen_ok]
def hd00:Hd:=([],0,0,[],[])
theorem hd00_rep (w:World) (G:Nat→Prop):hdP w G [.slice none 0 0,.int .i64 0,.int .i64 0,.slice none 0 0,.slice none 0 0] hd00 :=
 ⟨_,_,_,rfl,(by show I64 0; unfold I64; omega),(by show I64 0; unfold I64; omega),Slv.nil _ _,Slv.nil _ _,Slv.nil _ _⟩
theorem whole {α:Type} {e:α→List Nat} {p:Rd α} {d:α→Prop} (h:Fit e p d) {s:ByteArray} {x:α} (hx:p (al s) = .ok x s.size):e x = al s∧mkB (e x) = s:=by
 obtain ⟨_,h2,_⟩:=h.read _ x _ (bytesN_lt s) hx
 have h3:e x = al s:=by
  rw [<- h2,List.take_of_length_le]
  rw [aE]
  exact Nat.le_refl _
 refine ⟨h3,bytesN_inj ?_⟩
 rw [h3,bytesN_mkB (bytesN_lt s)]
theorem below_new {B:Nat} {b c:World} (hB:B≤b.heap.size) (o:Obj) (hg:(b.alloc o).grownBy c (some b.heap.size)):Below B b c :=
 ((Below.refl B b).alloc hB o).grown hg (by simp; omega) (fun k hk => by injection hk with hk; omega)
theorem bO {B g:Nat} {b c:World} (hB:B≤b.heap.size) (hg:b.grownBy c (some g)) (h:B≤g):Below B b c :=
 (Below.refl B b).grown hg hB (fun k hk => by injection hk with hk; omega)
theorem ok_same {α:Type} {p:Rd α} {L:List Nat} {x y:α} {n m:Nat} (h:p L = .ok x n) (g:p L = .ok y m):y = x:=by
 rw [h] at g
 injection g with g1
 exact g1.symm
end Go.Proofs.YtmhhcfceikcfbaaGreat
