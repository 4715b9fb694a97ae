/- Walks: what a key is; properties checked. -/
import Derived.Test.YtmhhcfceikcfbaaGreatDeP1
namespace Go.Proofs.YtmhhcfceikcfbaaGreat
open Go.RowKit
set_option maxRecDepth 100000
set_option maxHeartbeats 4000000
def findN (n:Int):Option Ky:=kys.find? fun x => x.1 == n
theorem findN_some {n:Int} {k:Nat} {x:Ky} (hk:kys[k]? = some x) (hx:x.1 = n):findN n = some x:=by
 cases h:findN n with
 | none =>
  have:=List.find?_eq_none.1 h x (List.mem_of_getElem? hk)
  simp [hx] at this
 | some y =>
  have h1:=List.find?_some h
  have h2:=List.mem_of_find?_eq_some h
  obtain ⟨j,hj⟩:=List.mem_iff_getElem?.1 h2
  have hy:y.1 = n:=by simpa using h1
  rcases Nat.lt_trichotomy j k with q | q | q
  ·have hp:=List.pairwise_iff_getElem.1 kys_sorted j k (List.getElem?_eq_some_iff.1 hj).1 (List.getElem?_eq_some_iff.1 hk).1 q
   rw [(List.getElem?_eq_some_iff.1 hj).2,(List.getElem?_eq_some_iff.1 hk).2] at hp
   omega
  ·subst q
   rw [hj] at hk
   exact hk
  have hp:=List.pairwise_iff_getElem.1 kys_sorted k j (List.getElem?_eq_some_iff.1 hk).1 (List.getElem?_eq_some_iff.1 hj).1 q
  rw [(List.getElem?_eq_some_iff.1 hj).2,(List.getElem?_eq_some_iff.1 hk).2] at hp
  omega
theorem findN_none {n:Int} (h:∀ x∈kys,x.1≠n):findN n = none:=by
 unfold findN
 rw [List.find?_eq_none]
 intro x hx
 simpa using h x hx
def FindC (n:Int) (w:World) (e:Ending) (w':World):Prop:=Below w.heap.size w w'∧match findN n with
 | some x => e = .returned (.tuple #[.agg (kyV x).toArray,.bool true])
 | none => e = .returned (.tuple #[.agg #[.int .i64 0,.int .i64 0,.int .i64 0,.int .i64 0,.int .i64 0,.string ⟨#[]⟩],.bool false])
theorem find208 (n:Int) (w:World):Calls Tryz.prog 208 #[.int .i64 n] w (FindC n w):=by
 obtain ⟨N,hN⟩:=gX (w.heap.size)
 obtain ⟨W,hW⟩:=gX ((w.alloc (.cells #[.int .i64 0,.int .i64 0,.int .i64 0,.int .i64 0,.int .i64 0,.string ⟨#[]⟩] 279)).alloc (.cells (kys.flatMap kyV).toArray 279))
 have hz:W.heap[N]? = some (.cells #[.int .i64 0,.int .i64 0,.int .i64 0,.int .i64 0,.int .i64 0,.string ⟨#[]⟩] 279 (0,0)):=by rw [hW,hN]; exact (Below.heap_alloc _ _ _ (by simp)).trans (heap_alloc_new _ _)
 have hT:TabS (N + 1) W:=by rw [hW,hN]; exact ah _ _ (by simp)
 have hB:Below w.heap.size w W:=by rw [hW]; exact ((Below.refl _ _).alloc (Nat.le_refl _) _).alloc (by simp) _
 have hn2:N + 1 < W.heap.size:=ae hT
 have C:=qH (bsearch219 (N + 1) n W hT hn2)
 have HW:=qH hW
 have HN:=qH hN
 have HB:=qH hB
 have HZ:=qH hz
 have HT:=qH hT
 clear hW hN hB hz hT
 go_enter Tryz.func208,Tryz.ntmps208
 go_wp2_with fail
 refine (table218 _).mono ?_
 rintro e w1 ⟨rfl,rfl⟩
 have e1:(w.alloc (.cells #[.int .i64 0,.int .i64 0,.int .i64 0,.int .i64 0,.int .i64 0,.string ⟨#[]⟩] 279)).heap.size = N + 1:=by rw [HN.out]; simp
 rw [<- HW.out,e1]
 rw [<- HN.out]
 clear e1 HW
 go_wp2_with fail
 refine C.out.mono ?_
 rintro e w2 ⟨i,r,rfl,hp,hb2⟩
 have HB2:=qH (HB.out.trans (hb2.mono HB.out.size))
 have HZ2:=qH ((hb2.block _ (ae HZ.out)).trans HZ.out)
 have HT2:Hid (TabS (N + 1) w2):=qH ((hb2.block _ hn2).trans HT.out)
 have HP:=qH hp
 clear hb2 hp C HB HZ HT
 cases r
 ·have HF:=qH (show findN n = none from by
   rcases HP.out with ⟨q,_⟩ | ⟨_,q⟩
   ·cases q
   exact findN_none q)
  go_upto_region 4 with fail
  refine ac (by rfl) ?_
  simp only [List.map]
  refine sq1 (.agg #[.int .i64 0,.int .i64 0,.int .i64 0,.int .i64 0,.int .i64 0,.string ⟨#[]⟩]) ?_ (by kernel_rfl)
  refine as_ 279 _ _ rfl rfl N 279 _ [.int .i64 0,.int .i64 0,.int .i64 0,.int .i64 0,.int .i64 0,.string ⟨#[]⟩] rfl rfl HZ2.out info279 (by simp [Value.oneCell']) rfl ?_
  intro w3 hb3 hg3
  refine ⟨trivial,?_⟩
  refine sq1b false ?_
  refine ad ?_
  have HB3:=qH (HB2.out.trans (bO HB2.out.size hg3 (by rw [HN.out]; exact Nat.le_refl _)))
  have Hb3:=qH hb3
  clear hg3 hb3
  go_wp2_with fail
  refine bodyPost_ret (v:=.tuple #[.agg #[.int .i64 0,.int .i64 0,.int .i64 0,.int .i64 0,.int .i64 0,.string ⟨#[]⟩],.bool false]) (bw rfl _ _ N 279 #[.int .i64 0,.int .i64 0,.int .i64 0,.int .i64 0,.int .i64 0,.string ⟨#[]⟩] (0,0) _ (.bool false) rfl rfl Hb3.out Tryz.underlying279 rfl info279) rfl ?_
  unfold FindC
  rw [HF.out]
  exact ⟨HB3.out,rfl⟩
 obtain ⟨k,x,hi,hk,hx⟩:∃ (k:Nat) (x:Ky),i = k∧kys[k]? = some x∧x.1 = n:=by
  rcases HP.out with ⟨_,q⟩ | ⟨q,_⟩
  ·exact q
  cases q
 subst hi
 have HF:=qH (findN_some hk hx)
 have hE:=HT2.out.elt hk
 have hk45:k < 45:=by
  have:=(List.getElem?_eq_some_iff.1 hk).1
  rw [kys_len] at this
  exact this
 have hk45':(k:Int) < 45:=by omega
 obtain ⟨x0,x1,x2,x3,x4,x5⟩:=x
 have HE:=qH hE
 clear hk hx HP hE
 go_upto_region 5 with fail
 refine ac (by rfl) ?_
 simp only [List.map]
 refine sq1 (.slice (some ⟨N + 1,0,none⟩) 45 45) ?_
 refine sq1i (k:Int) ?_
 refine sq1p (N + 1) (k * 6) ?_
 refine bt 279 _ rfl (N + 1) (k * 6) _ _ rfl HE.out Tryz.underlying279 rfl info279 trivial ?_
 simp only [Act.put,PutA,PutZ,PutS]
 refine as_ 279 _ _ rfl rfl N 279 _ (kyV (x0,x1,x2,x3,x4,x5)) rfl rfl HZ2.out info279 (by simp [kyV,Value.oneCell']) rfl ?_
 intro w3 hb3 hg3
 refine ⟨trivial,?_⟩
 refine sq1b true ?_
 refine ad ?_
 have HB3:=qH (HB2.out.trans (bO HB2.out.size hg3 (by rw [HN.out]; exact Nat.le_refl _)))
 have Hb3:=qH hb3
 clear hg3 hb3
 go_wp2_with fail
 refine bodyPost_ret (v:=.tuple #[.agg (kyV (x0,x1,x2,x3,x4,x5)).toArray,.bool true]) (bw rfl _ _ N 279 (kyV (x0,x1,x2,x3,x4,x5)).toArray (0,0) _ (.bool true) rfl rfl Hb3.out Tryz.underlying279 rfl info279) rfl ?_
 unfold FindC
 rw [HF.out]
 exact ⟨HB3.out,rfl⟩
def grpL (el:Int):List Int:=if el = 1∨el = 4∨el = 5∨el = 6 then [1] else if el = 2 then [1,2] else if el = 3 then [3] else if el = 7 then [6] else if el = 9 then [4] else if el = 10 then [5] else []
def IntsS (v:Value) (l:List Int) (w:World):Prop:=∃ A,v = .slice A l.length l.length∧(0 < l.length→∃ g,A = some ⟨g,0,none⟩∧g < w.heap.size∧∀ (j:Nat) (x:Int),l[j]? = some x→w.cell? ⟨g,j,none⟩ = some (.int .i64 x))
def GrpC (el:Int) (w:World) (e:Ending) (w':World):Prop:=∃ v,e = .returned v∧IntsS v (grpL el) w'∧Below w.heap.size w w'
theorem ints_new (w:World) (l:List Int) (t:TypeId) (_h:0 < l.length):IntsS (.slice (some ⟨w.heap.size,0,none⟩) l.length l.length) l (w.alloc (.cells (l.map fun x => Value.int .i64 x).toArray t)) :=
 ⟨_,rfl,fun _ => ⟨_,rfl,by simp,fun j x hx => cells_new w (l.map fun x => Value.int .i64 x) t j _ (by rw [List.getElem?_map,hx]; rfl)⟩⟩
theorem groups210 (el:Int) (w:World):Calls Tryz.prog 210 #[.int .i64 el] w (GrpC el w):=by
 by_cases hs:el = 1∨el = 2∨el = 3∨el = 4∨el = 5∨el = 6∨el = 7∨el = 9∨el = 10
 ·rcases hs with h | h | h | h | h | h | h | h | h
  ·subst h
   go_enter Tryz.func210,Tryz.ntmps210
   go_wp2_with fail
   go_ret
   exact ⟨_,rfl,ints_new w [1] 3 (by decide),(Below.refl _ _).alloc (Nat.le_refl _) _⟩
  ·subst h
   go_enter Tryz.func210,Tryz.ntmps210
   go_wp2_with fail
   go_ret
   exact ⟨_,rfl,ints_new w [1,2] 3 (by decide),(Below.refl _ _).alloc (Nat.le_refl _) _⟩
  ·subst h
   go_enter Tryz.func210,Tryz.ntmps210
   go_wp2_with fail
   go_ret
   exact ⟨_,rfl,ints_new w [3] 3 (by decide),(Below.refl _ _).alloc (Nat.le_refl _) _⟩
  ·subst h
   go_enter Tryz.func210,Tryz.ntmps210
   go_wp2_with fail
   go_ret
   exact ⟨_,rfl,ints_new w [1] 3 (by decide),(Below.refl _ _).alloc (Nat.le_refl _) _⟩
  ·subst h
   go_enter Tryz.func210,Tryz.ntmps210
   go_wp2_with fail
   go_ret
   exact ⟨_,rfl,ints_new w [1] 3 (by decide),(Below.refl _ _).alloc (Nat.le_refl _) _⟩
  ·subst h
   go_enter Tryz.func210,Tryz.ntmps210
   go_wp2_with fail
   go_ret
   exact ⟨_,rfl,ints_new w [1] 3 (by decide),(Below.refl _ _).alloc (Nat.le_refl _) _⟩
  ·subst h
   go_enter Tryz.func210,Tryz.ntmps210
   go_wp2_with fail
   go_ret
   exact ⟨_,rfl,ints_new w [6] 3 (by decide),(Below.refl _ _).alloc (Nat.le_refl _) _⟩
  ·subst h
   go_enter Tryz.func210,Tryz.ntmps210
   go_wp2_with fail
   go_ret
   exact ⟨_,rfl,ints_new w [4] 3 (by decide),(Below.refl _ _).alloc (Nat.le_refl _) _⟩
  subst h
  go_enter Tryz.func210,Tryz.ntmps210
  go_wp2_with fail
  go_ret
  exact ⟨_,rfl,ints_new w [5] 3 (by decide),(Below.refl _ _).alloc (Nat.le_refl _) _⟩
 simp only [not_or] at hs
 obtain ⟨h1,h2,h3,h4,h5,h6,h7,h9,h10⟩:=hs
 have HV:=qH (show grpL el = [] by unfold grpL; simp [h1,h2,h3,h4,h5,h6,h7,h9,h10])
 have b1:(el == 1) = false:=by rw [beq_eq_false_iff_ne]; exact h1
 have b2:(el == 2) = false:=by rw [beq_eq_false_iff_ne]; exact h2
 have b3:(el == 3) = false:=by rw [beq_eq_false_iff_ne]; exact h3
 have b4:(el == 4) = false:=by rw [beq_eq_false_iff_ne]; exact h4
 have b5:(el == 5) = false:=by rw [beq_eq_false_iff_ne]; exact h5
 have b6:(el == 6) = false:=by rw [beq_eq_false_iff_ne]; exact h6
 have b7:(el == 7) = false:=by rw [beq_eq_false_iff_ne]; exact h7
 have b9:(el == 9) = false:=by rw [beq_eq_false_iff_ne]; exact h9
 have b10:(el == 10) = false:=by rw [beq_eq_false_iff_ne]; exact h10
 go_enter Tryz.func210,Tryz.ntmps210
 go_wp2_with fail
 go_ret
 refine ⟨_,rfl,?_,Below.refl _ _⟩
 rw [HV.out]
 exact ⟨none,rfl,fun h => absurd h (by decide)⟩
def IdxC (l:List Int) (x:Int) (w:World) (e:Ending) (w':World):Prop:=∃ r:Int,e = .returned (.int .i64 r)∧(0≤r↔x∈l)∧w = w'
theorem index222 (l:List Int) (x:Int) (v:Value) (w:World) (hv:IntsS v l w) (hl:l.length≤100):Calls Tryz.prog 222 #[v,.int .i64 x] w (IdxC l x w):=by
 obtain ⟨A,rfl,hc⟩:=hv
 obtain ⟨n,hn⟩:=gX (l.length)
 have HC:=qH hc
 have HN:=qH hn
 rw [<- hn]
 have hnn:n≤100:=by omega
 clear hc hn
 go_enter Tryz.func222,Tryz.ntmps222
 go_wp2_with fail
 go_loopw [8] (fun iv wr => ∃ i:Nat,iv = .int .i64 (i:Int)∧i≤n∧Hid (∀ y∈l.take i,y≠x)∧wr = w) (fun iv _ => n - (intOf iv).toNat)
 case atStart => exact ⟨0,rfl,Nat.zero_le _,qH (fun y hy => by simp at hy),rfl⟩
 obtain ⟨i,rfl,hin,HI,hw⟩:=hrel
 subst hw
 by_cases hlt:i < n
 ·have hlt':(i:Int) < (n:Int):=by omega
  obtain ⟨y,hy⟩:∃ y,l[i]? = some y:=⟨_,List.getElem?_eq_getElem (by rw [<- HN.out]; exact hlt)⟩
  obtain ⟨g,rfl,hg,hcs⟩:=HC.out (by rw [<- HN.out]; omega)
  have hE:=hcs i y hy
  have HY:=qH hy
  clear hcs hy
  by_cases h:x = y
  ·subst h
   go_wp2_with fail
   go_ret
   exact ⟨(i:Int),rfl,⟨fun _ => List.mem_of_getElem? HY.out,fun _ => by omega⟩,rfl⟩
  have b1:(x == y) = false:=by rw [beq_eq_false_iff_ne]; exact h
  have HN2:Hid (∀ y∈l.take (i + 1),y≠x):=qH (fun z hz => by
   rw [aQ HY.out] at hz
   rcases List.mem_append.1 hz with q | q
   ·exact HI.out z q
   rw [List.mem_singleton.1 q]
   exact fun e => h e.symm)
  clear HI h
  go_wp2_with fail
  exact ⟨⟨i + 1,by go_num,by omega,HN2,(by trivial)⟩,by simp [intOf]; omega⟩
 have hlt':¬ (i:Int) < (n:Int):=by omega
 go_wp2_with fail
 go_ret
 refine ⟨-1,rfl,⟨fun h => absurd h (by decide),fun h => ?_⟩,rfl⟩
 have h1:=HI.out
 rw [List.take_of_length_le (by rw [<- HN.out]; omega)] at h1
 exact absurd rfl (h1 x h)
theorem contains209 (l:List Int) (x:Int) (v:Value) (w:World) (hv:IntsS v l w) (hl:l.length≤100):Calls Tryz.prog 209 #[v,.int .i64 x] w fun e w' => e = .returned (.bool (l.contains x))∧w = w':=by
 have C:=qH (index222 l x v w hv hl)
 obtain ⟨A,rfl,_⟩:=hv
 go_enter Tryz.func209,Tryz.ntmps209
 go_wp2_with fail
 refine C.out.mono ?_
 rintro e w1 ⟨r,rfl,hr,rfl⟩
 have HR:=qH hr
 clear hr C
 by_cases h:0≤r
 ·have d1:decide (0≤r) = true:=by simpa using h
  have d2:r ≥ 0:=h
  go_wp2_with fail
  go_ret
  exact ⟨by rw [show l.contains x = true by simpa using HR.out.1 h]; rfl,rfl⟩
 have d1:decide (0≤r) = false:=by simpa using h
 have d2:¬ r ≥ 0:=h
 go_wp2_with fail
 go_ret
 exact ⟨by rw [show l.contains x = false by rw [<- Bool.not_eq_true]; intro e; have:=HR.out.2 (by simpa using e); omega]; rfl,rfl⟩
def fitsB (el key:Int):Bool:=match findN key with
 | some x => (grpL el).contains x.2.1
 | none => false
def chkV (key value:Int):Int:=match findN key with
 | some x => if value < x.2.2.1∨x.2.2.2.1 < value then 5 else 0
 | none => 4
theorem grpL_len (el:Int):(grpL el).length≤100:=by
 unfold grpL
 repeat' split
 all_goals simp
def RetB (b:Bool) (w:World) (e:Ending) (w':World):Prop:=e = .returned (.bool b)∧Below w.heap.size w w'
def RetI (x:Int) (w:World) (e:Ending) (w':World):Prop:=e = .returned (.int .i64 x)∧Below w.heap.size w w'
theorem fits187 (el key:Int) (w:World):Calls Tryz.prog 187 #[.int .i64 el,.int .i64 key] w (RetB (fitsB el key) w):=by
 cases hf:findN key with
 | none =>
  have HV:=qH (show fitsB el key = false by unfold fitsB; rw [hf])
  have C:Hid (Calls Tryz.prog 208 #[.int .i64 key] w fun e w' => e = .returned (.tuple #[.agg #[.int .i64 0,.int .i64 0,.int .i64 0,.int .i64 0,.int .i64 0,.string ⟨#[]⟩],.bool false])∧Below w.heap.size w w'):=qH ((find208 key w).mono (fun e w' h => by unfold FindC at h; rw [hf] at h; exact ⟨h.2,h.1⟩))
  clear hf
  go_enter Tryz.func187,Tryz.ntmps187
  go_wp2_with fail
  refine C.out.mono ?_
  rintro e w1 ⟨rfl,hb1⟩
  have HB1:=qH hb1
  clear C hb1
  go_upto_region 2 with fail
  go_quiet (fail)
  go_wp2_with fail
  go_ret
  exact ⟨by rw [HV.out]; rfl,aq (HB1.out.alloc HB1.out.size _) _⟩
 | some x =>
  obtain ⟨x0,x1,x2,x3,x4,x5⟩:=x
  have HV:=qH (show fitsB el key = (grpL el).contains x1 by unfold fitsB; rw [hf])
  have C:Hid (Calls Tryz.prog 208 #[.int .i64 key] w fun e w' => e = .returned (.tuple #[.agg #[.int .i64 x0,.int .i64 x1,.int .i64 x2,.int .i64 x3,.int .i64 x4,.string x5],.bool true])∧Below w.heap.size w w'):=qH ((find208 key w).mono (fun e w' h => by unfold FindC at h; rw [hf] at h; exact ⟨h.2,h.1⟩))
  clear hf
  go_enter Tryz.func187,Tryz.ntmps187
  go_wp2_with fail
  refine C.out.mono ?_
  rintro e w1 ⟨rfl,hb1⟩
  obtain ⟨g,hg⟩:=gX (w1.heap.size)
  obtain ⟨W,hW⟩:=gX (w1.alloc (.cells #[.int .i64 x0,.int .i64 x1,.int .i64 x2,.int .i64 x3,.int .i64 x4,.string x5] 279))
  have hbk:W.drew.heap[g]? = some (.cells #[.int .i64 x0,.int .i64 x1,.int .i64 x2,.int .i64 x3,.int .i64 x4,.string x5] 279 (0,0)):=by rw [hW]; exact ah _ _ hg
  have hBW:Below w.heap.size w W.drew:=by rw [hW]; exact (hb1.alloc hb1.size _).drew
  have HW:=qH hW
  have HGq:=qH hg
  have Hb1:=qH hbk
  have HB1:=qH hBW
  clear C hb1 hW hg hbk hBW
  go_upto_region 2 with fail
  rw [<- HW.out,<- HGq.out]
  refine aI (S:=fun w' => w'.heap[g]? = some (.cells #[.int .i64 x0,.int .i64 x1,.int .i64 x2,.int .i64 x3,.int .i64 x4,.string x5] 279 (0,0))) [(true,0),(true,1),(true,2),(true,4),(true,5),(false,3),(false,6),(true,7),(true,8)] (by kernel_rfl) (by kernel_rfl) Hb1.out ?_
  simp only [aO,List.getElem?_cons_succ,List.getElem?_cons_zero]
  refine gd1b true ?_
  refine gd1b true ?_
  refine gd1i el ?_
  refine gd1p g 1 ?_
  refine gd1i x1 ?_ (fun w' hS => by have q:=aa hS 1; go_simp)
  refine ax rfl ?_
  refine af 210 #[.int .i64 el] (by go_simp) ?_
  refine Calls.mono (groups210 el _) ?_
  rintro e w2 ⟨v,rfl,hv,hb2⟩
  have HB2:=qH (HB1.out.trans (hb2.mono HB1.out.size))
  have Hb2:=(hb2.block _ (ae Hb1.out)).trans Hb1.out
  have HVV:=qH hv
  clear hv hb2
  refine ⟨_,rfl,Hb2,?_⟩
  refine ad ?_
  simp only [Act.put,PutA,PutZ,PutS]
  refine ax rfl ?_
  refine af 209 #[v,.int .i64 x1] (by go_simp) ?_
  refine Calls.mono (contains209 (grpL el) x1 v _ HVV.out (grpL_len el)) ?_
  rintro e w3 ⟨rfl,rfl⟩
  refine ⟨_,rfl,Hb2,?_⟩
  refine ad ?_
  simp only [Act.put,PutA,PutZ,PutS]
  refine gd1 (.bool ((grpL el).contains x1)) ?_
  refine gd1 (.bool ((grpL el).contains x1)) ?_
  refine bF ?_
  go_wp2_with fail
  go_ret
  exact ⟨by rw [HV.out]; rfl,HB2.out⟩
theorem checkValue188 (key value:Int) (w:World):Calls Tryz.prog 188 #[.int .i64 key,.int .i64 value] w (RetI (chkV key value) w):=by
 cases hf:findN key with
 | none =>
  have HV:=qH (show chkV key value = 4 by unfold chkV; rw [hf])
  have C:Hid (Calls Tryz.prog 208 #[.int .i64 key] w fun e w' => e = .returned (.tuple #[.agg #[.int .i64 0,.int .i64 0,.int .i64 0,.int .i64 0,.int .i64 0,.string ⟨#[]⟩],.bool false])∧Below w.heap.size w w'):=qH ((find208 key w).mono (fun e w' h => by unfold FindC at h; rw [hf] at h; exact ⟨h.2,h.1⟩))
  clear hf
  go_enter Tryz.func188,Tryz.ntmps188
  go_wp2_with fail
  refine C.out.mono ?_
  rintro e w1 ⟨rfl,hb1⟩
  have HB1:=qH (hb1.alloc hb1.size (.cells #[.int .i64 0,.int .i64 0,.int .i64 0,.int .i64 0,.int .i64 0,.string ⟨#[]⟩] 279))
  clear C hb1
  go_wp2_with fail
  go_ret
  exact ⟨by rw [HV.out]; rfl,HB1.out⟩
 | some x =>
  obtain ⟨x0,x1,x2,x3,x4,x5⟩:=x
  have HV0:=qH (show chkV key value = (if value < x2∨x3 < value then 5 else 0) by unfold chkV; rw [hf])
  have C:Hid (Calls Tryz.prog 208 #[.int .i64 key] w fun e w' => e = .returned (.tuple #[.agg #[.int .i64 x0,.int .i64 x1,.int .i64 x2,.int .i64 x3,.int .i64 x4,.string x5],.bool true])∧Below w.heap.size w w'):=qH ((find208 key w).mono (fun e w' h => by unfold FindC at h; rw [hf] at h; exact ⟨h.2,h.1⟩))
  clear hf
  by_cases h1:value < x2
  ·have HV:=qH (show chkV key value = 5 by rw [HV0.out,if_pos (.inl h1)])
   have d1:decide (value < x2) = true:=by simpa using h1
   go_enter Tryz.func188,Tryz.ntmps188
   go_wp2_with fail
   refine C.out.mono ?_
   rintro e w1 ⟨rfl,hb1⟩
   have HB1:=qH (hb1.alloc hb1.size (.cells #[.int .i64 x0,.int .i64 x1,.int .i64 x2,.int .i64 x3,.int .i64 x4,.string x5] 279))
   clear C hb1
   go_wp2_with fail
   go_ret
   exact ⟨by rw [HV.out]; rfl,HB1.out⟩
  by_cases h2:x3 < value
  ·have HV:=qH (show chkV key value = 5 by rw [HV0.out,if_pos (.inr h2)])
   have d1:decide (value < x2) = false:=by simpa using h1
   have d2:decide (x3 < value) = true:=by simpa using h2
   go_enter Tryz.func188,Tryz.ntmps188
   go_wp2_with fail
   refine C.out.mono ?_
   rintro e w1 ⟨rfl,hb1⟩
   have HB1:=qH (hb1.alloc hb1.size (.cells #[.int .i64 x0,.int .i64 x1,.int .i64 x2,.int .i64 x3,.int .i64 x4,.string x5] 279))
   clear C hb1
   go_wp2_with fail
   go_ret
   exact ⟨by rw [HV.out]; rfl,HB1.out⟩
  have HV:=qH (show chkV key value = 0 by rw [HV0.out,if_neg (by omega)])
  have d1:decide (value < x2) = false:=by simpa using h1
  have d2:decide (x3 < value) = false:=by simpa using h2
  go_enter Tryz.func188,Tryz.ntmps188
  go_wp2_with fail
  refine C.out.mono ?_
  rintro e w1 ⟨rfl,hb1⟩
  have HB1:=qH (hb1.alloc hb1.size (.cells #[.int .i64 x0,.int .i64 x1,.int .i64 x2,.int .i64 x3,.int .i64 x4,.string x5] 279))
  clear C hb1
  go_wp2_with fail
  go_ret
  exact ⟨by rw [HV.out]; rfl,HB1.out⟩
def propR (el:Int):Option Int→List Two→Int
 | _,[] => 0
 | p,x::r => if fitsB el x.1 = false then 4 else if p = some x.1 then 7 else if (∃ y,p = some y∧x.1 < y) then 6 else if chkV x.1 x.2≠0 then chkV x.1 x.2 else propR el (some x.1) r
def propC (el:Int) (l:List Two):Int:=if el < 1∨10 < el then 3 else propR el none l
def prevK (l:List Two) (i:Nat):Option Int:=if i = 0 then none else (l[i - 1]?).map Prod.fst
theorem propR_at {el:Int} {l:List Two} {i:Nat} {x:Two} (hx:l[i]? = some x):propR el (prevK l i) (l.drop i) = if fitsB el x.1 = false then 4 else if prevK l i = some x.1 then 7 else if (∃ y,prevK l i = some y∧x.1 < y) then 6 else if chkV x.1 x.2≠0 then chkV x.1 x.2 else propR el (prevK l (i + 1)) (l.drop (i + 1)):=by
 obtain ⟨hi,he⟩:=List.getElem?_eq_some_iff.1 hx
 rw [List.drop_eq_getElem_cons hi,he]
 simp only [propR]
 have:prevK l (i + 1) = some x.1:=by
  unfold prevK
  rw [if_neg (Nat.succ_ne_zero i),Nat.add_sub_cancel,hx]
  rfl
 rw [this]
theorem prevK_succ {l:List Two} {i:Nat} {y:Two} (hi:0 < i) (hy:l[i - 1]? = some y):prevK l i = some y.1:=by
 unfold prevK
 rw [if_neg (by omega),hy]
 rfl
theorem check108 (el:Int) (G:Nat→Prop) (w:World) (v:Value) (l:List Two) (hv:Slv twoP 2 w G v l):Calls Tryz.prog 108 #[.int .i64 el,v] w (RetI (propC el l) w):=by
 by_cases h1:el < 1
 ·have d1:decide (el < 1) = true:=by simpa using h1
  have HF:=qH (show propC el l = 3 by unfold propC; rw [if_pos (.inl h1)])
  obtain ⟨A,c,rfl,_,_⟩:=hv.shape
  clear hv
  go_enter Tryz.func108,Tryz.ntmps108
  go_wp2_with fail
  go_ret
  exact ⟨by rw [HF.out]; rfl,Below.refl _ _⟩
 by_cases h2:10 < el
 ·have d1:decide (el < 1) = false:=by simpa using h1
  have d2:decide (10 < el) = true:=by simpa using h2
  have HF:=qH (show propC el l = 3 by unfold propC; rw [if_pos (.inr h2)])
  obtain ⟨A,c,rfl,_,_⟩:=hv.shape
  clear hv
  go_enter Tryz.func108,Tryz.ntmps108
  go_wp2_with fail
  go_ret
  exact ⟨by rw [HF.out]; rfl,Below.refl _ _⟩
 have d1:decide (el < 1) = false:=by simpa using h1
 have d2:decide (10 < el) = false:=by simpa using h2
 obtain ⟨V,hV⟩:=gX (propC el l)
 have H0:=qH (show V = propR el (prevK l 0) (l.drop 0) by rw [hV]; unfold propC; rw [if_neg (by omega)]; rfl)
 rw [<- hV]
 clear hV
 obtain ⟨A,c,rfl,_,hm1⟩:=hv.shape
 obtain ⟨n,hn⟩:=gX (l.length)
 have hnn:n≤9223372036854775807:=by unfold maxLen at hm1; omega
 have HV:=qH hv
 rw [<- hn]
 have HN:=qH hn
 clear hv hm1 hn
 go_enter Tryz.func108,Tryz.ntmps108
 go_wp2_with fail
 go_loopw [16] (fun iv wr => ∃ i:Nat,iv = .int .i64 (i:Int)∧i≤n∧Hid (V = propR el (prevK l i) (l.drop i))∧Hid (Below w.heap.size w wr)) (fun iv _ => n - (intOf iv).toNat)
 case atStart => exact ⟨0,rfl,Nat.zero_le _,H0,qH (Below.refl _ _)⟩
 obtain ⟨i,rfl,hin,HT,HB⟩:=hrel
 clear H0
 by_cases hlt:i < n
 ·have hlt':(i:Int) < (n:Int):=by omega
  obtain ⟨x,hx⟩:∃ x,l[i]? = some x:=⟨_,List.getElem?_eq_getElem (by rw [<- HN.out]; exact hlt)⟩
  obtain ⟨b1,o1,vs,rfl,_,hbw,_,hRx,hcs⟩:=HV.out.at i x hx
  have hE:EltS b1 (o1 + i * 2) vs wr:=EltS.below (w:=w) hcs hbw HB.out
  have HS:=qH (HT.out.trans (propR_at hx))
  obtain ⟨x0,x1⟩:=x
  simp only at HS
  obtain ⟨rfl,_⟩:=hRx
  have e0:=hE 0 _ rfl
  have e1:=hE 1 _ rfl
  simp only [Nat.add_zero] at e0
  clear hcs hx hE HT
  obtain ⟨g,hg⟩:=gX (wr.heap.size)
  obtain ⟨W,hW⟩:=gX (wr.alloc (.cells #[.int .i64 x0,.int .i64 x1] 187))
  have hbk:W.heap[g]? = some (.cells #[.int .i64 x0,.int .i64 x1] 187 (0,0)):=by rw [hW]; exact ah _ _ hg
  have hBW:Below w.heap.size w W:=by rw [hW]; exact HB.out.alloc HB.out.size _
  have HW:=qH hW
  have HGq:=qH hg
  have Hb:=qH hbk
  have HBW:=qH hBW
  clear hW hg hbk hBW
  have C:=qH (fits187 el x0 W)
  go_wp2_with fail
  rw [<- HW.out,<- HGq.out]
  refine C.out.mono ?_
  rintro e w1 ⟨rfl,hb1⟩
  have HB1:=qH (HBW.out.trans (hb1.mono HBW.out.size))
  have Hb1:=qH ((hb1.block _ (ae Hb.out)).trans Hb.out)
  have hs1:=hb1.size
  clear hb1 C HW
  obtain ⟨fb,hfb⟩:=gX (fitsB el x0)
  rw [<- hfb] at HS ⊢
  clear hfb
  cases fb
  ·have HF:=qH (show V = 4 by rw [HS.out,if_pos rfl])
   have HBX:=HB1
   go_wp2_with fail
   go_ret
   exact ⟨by rw [HF.out]; rfl,HBX.out⟩
  replace HS:=qH (show V = _ from HS.out.trans (if_neg (by decide)))
  by_cases h0:i = 0
  ·have dz:decide (0 < (i:Int)) = false:=by simp; omega
   have dz3:decide (0 < i) = false:=by simp; omega
   have hk0:prevK l i = none:=by unfold prevK; rw [if_pos h0]
   replace HS:=qH (show V = (if chkV x0 x1≠0 then chkV x0 x1 else propR el (prevK l (i + 1)) (l.drop (i + 1))) by rw [HS.out,hk0,if_neg (by simp),if_neg (by simp)])
   clear hk0 h0
   go_upto_region 8 with fail
   go_quiet (fail)
   obtain ⟨wm,hw2⟩:=gX (w1.drewN nq)
   rw [<- hw2]
   have HBm:=qH (show Below w.heap.size w wm by rw [hw2]; exact aq HB1.out nq)
   have Hbm:Hid (wm.heap[g]? = some (.cells #[.int .i64 x0,.int .i64 x1] 187 (0,0))):=qH (by rw [hw2]; exact Hb1.out)
   clear hw2
   go_upto_region 10 with fail
   go_quiet (fail)
   obtain ⟨w2,hw2⟩:=gX (wm.drewN nq)
   rw [<- hw2]
   have HB2:=qH (show Below w.heap.size w w2 by rw [hw2]; exact aq HBm.out nq)
   have Hb2:Hid (w2.heap[g]? = some (.cells #[.int .i64 x0,.int .i64 x1] 187 (0,0))):=qH (by rw [hw2]; exact Hbm.out)
   clear hw2
   have C:=qH (checkValue188 x0 x1 w2)
   have z0:=aa Hb2.out 0
   have z1:=aa Hb2.out 1
   go_wp2_with fail
   refine C.out.mono ?_
   rintro e w3 ⟨rfl,hb3⟩
   have HB3:=qH (HB2.out.trans (hb3.mono HB2.out.size))
   clear hb3 C z0 z1
   obtain ⟨cv,hcv⟩:=gX (chkV x0 x1)
   rw [<- hcv] at HS ⊢
   clear hcv
   by_cases h3:cv = 0
   ·subst h3
    have HF:=qH (show V = propR el (prevK l (i + 1)) (l.drop (i + 1)) from HS.out.trans (if_neg (by decide)))
    clear HS Hb1 Hb2 HB1 HB2
    go_wp2_with fail
    exact ⟨⟨i + 1,by go_num,by omega,HF,HB3⟩,by simp [intOf]; omega⟩
   have d3:(cv == 0) = false:=by rw [beq_eq_false_iff_ne]; exact h3
   have HF:=qH (show V = cv by rw [HS.out,if_pos h3])
   have HBX:=HB3
   clear HS
   go_wp2_with fail
   go_ret
   exact ⟨by rw [HF.out]; rfl,HBX.out⟩
  have hi1:0 < i:=by omega
  have hi2:decide ((0:Int) < (i:Int)) = true:=by simp; omega
  have hi3:decide (0 < i) = true:=by simp; omega
  obtain ⟨y,hy⟩:∃ y,l[i - 1]? = some y:=⟨_,List.getElem?_eq_getElem (by rw [<- HN.out]; omega)⟩
  have hk0:=prevK_succ hi1 hy
  obtain ⟨b2,o2,us,hA,_,hbw2,_,hRy,hds⟩:=HV.out.at (i - 1) y hy
  injection hA with hA
  injection hA with hA1 hA2
  subst hA1 hA2
  have hD:EltS b1 (o1 + (i - 1) * 2) us w1:=EltS.below (w:=w) hds hbw2 HB1.out
  have hbl1:b1 < w1.heap.size:=Nat.lt_of_lt_of_le hbw HB1.out.size
  obtain ⟨y0,y1⟩:=y
  obtain ⟨rfl,_⟩:=hRy
  have d0:=hD 0 _ rfl
  simp only [Nat.add_zero] at d0
  have HD:=qH hD
  obtain ⟨m,hm⟩:=gX (i - 1)
  rw [<- hm] at d0 HD
  have em:IntKind.i64.wrap ((i:Int) - 1) = (m:Int):=by rw [IntWalk.i64_in _ (by omega)]; omega
  have em2:wrap64 ((i:Int) - 1) = (m:Int):=by rw [IntWalk.wrap64_in _ (by omega)]; omega
  have em3:(i:Int) - 1 = (m:Int):=by omega
  have hmn:(m:Int) < (n:Int):=by omega
  replace HS:=qH (show V = (if y0 = x0 then 7 else if x0 < y0 then 6 else if chkV x0 x1≠0 then chkV x0 x1 else propR el (prevK l (i + 1)) (l.drop (i + 1))) by rw [HS.out,hk0]; simp)
  have z0:=aa Hb1.out 0
  clear hk0 hy hds hD hm
  by_cases h1:x0 = y0
  ·subst h1
   have HF:=qH (show V = 7 by rw [HS.out,if_pos rfl])
   go_upto_region 8 with fail
   go_quiet (fail)
   obtain ⟨wm,hw2⟩:=gX (w1.drewN nq)
   rw [<- hw2]
   have HBm:=qH (show Below w.heap.size w wm by rw [hw2]; exact aq HB1.out nq)
   have Hbm:Hid (wm.heap[g]? = some (.cells #[.int .i64 x0,.int .i64 x1] 187 (0,0))):=qH (by rw [hw2]; exact Hb1.out)
   clear hw2
   have HBX:=HBm
   clear HS d0 z0
   go_wp2_with fail
   go_ret
   exact ⟨by rw [HF.out]; rfl,HBX.out⟩
  have d1:(x0 == y0) = false:=by rw [beq_eq_false_iff_ne]; exact h1
  replace HS:=qH (show V = _ from HS.out.trans (if_neg (fun e => h1 e.symm)))
  go_upto_region 8 with fail
  go_quiet (fail)
  obtain ⟨wm,hw2⟩:=gX (w1.drewN nq)
  rw [<- hw2]
  have HBm:=qH (show Below w.heap.size w wm by rw [hw2]; exact aq HB1.out nq)
  have Hbm:Hid (wm.heap[g]? = some (.cells #[.int .i64 x0,.int .i64 x1] 187 (0,0))):=qH (by rw [hw2]; exact Hb1.out)
  have d0':wm.cell? ⟨b1,o1 + m * 2,none⟩ = some (.int .i64 y0):=by rw [hw2]; exact d0
  clear d0 z0 hw2
  have z0:=aa Hbm.out 0
  by_cases h2:x0 < y0
  ·have d2:decide (x0 < y0) = true:=by simpa using h2
   have HF:=qH (show V = 6 by rw [HS.out,if_pos h2])
   go_upto_region 10 with fail
   go_quiet (fail)
   obtain ⟨w2,hw2⟩:=gX (wm.drewN nq)
   rw [<- hw2]
   have HB2:=qH (show Below w.heap.size w w2 by rw [hw2]; exact aq HBm.out nq)
   have Hb2:Hid (w2.heap[g]? = some (.cells #[.int .i64 x0,.int .i64 x1] 187 (0,0))):=qH (by rw [hw2]; exact Hbm.out)
   clear hw2
   have HBX:=HB2
   clear HS d0' z0
   go_wp2_with fail
   go_ret
   exact ⟨by rw [HF.out]; rfl,HBX.out⟩
  have d2:decide (x0 < y0) = false:=by simpa using h2
  replace HS:=qH (show V = _ from HS.out.trans (if_neg h2))
  go_upto_region 10 with fail
  go_quiet (fail)
  obtain ⟨w2,hw2⟩:=gX (wm.drewN nq)
  rw [<- hw2]
  have HB2:=qH (show Below w.heap.size w w2 by rw [hw2]; exact aq HBm.out nq)
  have Hb2:Hid (w2.heap[g]? = some (.cells #[.int .i64 x0,.int .i64 x1] 187 (0,0))):=qH (by rw [hw2]; exact Hbm.out)
  clear hw2
  clear d0' z0
  have C:=qH (checkValue188 x0 x1 w2)
  have z0:=aa Hb2.out 0
  have z1:=aa Hb2.out 1
  go_wp2_with fail
  refine C.out.mono ?_
  rintro e w3 ⟨rfl,hb3⟩
  have HB3:=qH (HB2.out.trans (hb3.mono HB2.out.size))
  clear hb3 C z0 z1
  obtain ⟨cv,hcv⟩:=gX (chkV x0 x1)
  rw [<- hcv] at HS ⊢
  clear hcv
  by_cases h3:cv = 0
  ·subst h3
   have HF:=qH (show V = propR el (prevK l (i + 1)) (l.drop (i + 1)) from HS.out.trans (if_neg (by decide)))
   clear HS Hb1 Hb2 HB1 HB2
   go_wp2_with fail
   exact ⟨⟨i + 1,by go_num,by omega,HF,HB3⟩,by simp [intOf]; omega⟩
  have d3:(cv == 0) = false:=by rw [beq_eq_false_iff_ne]; exact h3
  have HF:=qH (show V = cv by rw [HS.out,if_pos h3])
  have HBX:=HB3
  clear HS
  go_wp2_with fail
  go_ret
  exact ⟨by rw [HF.out]; rfl,HBX.out⟩
 have hlt':¬ (i:Int) < (n:Int):=by omega
 have HF:=qH (show V = 0 by rw [HT.out,List.drop_eq_nil_of_le (by rw [<- HN.out]; omega)]; cases prevK l i <;> rfl)
 have HBX:=HB
 go_wp2_with fail
 go_ret
 exact ⟨by rw [HF.out]; rfl,HBX.out⟩
end Go.Proofs.YtmhhcfceikcfbaaGreat
