/- Walks: the readers of lists, further. -/
import Derived.Test.YtmhhcfceikcfbaaGreatDeR6
namespace Go.Proofs.YtmhhcfceikcfbaaGreat
open Go.RowKit
set_option maxRecDepth 100000
set_option maxHeartbeats 4000000
theorem info114x:(Tryz.prog.info? 114).map (fun i => (i.zero.map (·.cells.size),i.size,i.bytes)) = some (some 6,6,64):=by kernel_rfl
theorem get162 {α:Type} (R:Rp α) (p:Rd α) (hR:Stb R) (r c k0:Nat) (s:ByteArray) (e0:Int) (w:World) (h:Rdr 99 r s k0 e0 w) (hk0:k0≤s.size) (hs:s.size≤549755813888) (hc:w.cell? ⟨c,0,none⟩ = some (.pointer (some ⟨r,0,none⟩))) (hcr:c≠r)
  (HC:e0 = 0→ClosC R p 6 163 99 r c s k0 w.heap.size) :
  Calls Tryz.prog 162 #[.pointer (some ⟨r,0,none⟩),.func (.func 163) #[] #[.pointer (some ⟨c,0,none⟩)]] w (bq R p 6 99 r s k0 e0 w):=by
 have hcw:=World.block_lt_of_cell? _ _ hc
 have hrw:=ae h
 have C:=qH (size195 r k0 s e0 w h hk0 (by omega))
 have HCC:=qH HC
 have HRR:=qH hR
 obtain ⟨i0,z0,hi,hz0,hz1,hz2,hz3⟩:=bk info114x
 clear h HC hR
 go_enter Tryz.func162,Tryz.ntmps162
 go_wp2_with fail
 refine C.out.mono ?_
 rintro e w1 ⟨n,k1,e1,rfl,hkn,hn0,hr,hg,hsz⟩
 have HI0:Hid (GetI R p 6 114 99 r c s w k1 e1 0 k1 (.slice none 0 0) w1):=qH (GetI.start R p 6 114 99 hsz.1 hr hg (aK hg hc hcr))
 have HS:=qH hsz
 have HN:=qH hn0
 clear C hr hg hsz hc hn0
 go_wp2_with fail
 go_loopw [5,9] (fun ov iv wr => ∃ i k:Nat,iv = .int .i64 (i:Int)∧i≤n∧Hid (GetI R p 6 114 99 r c s w k1 e1 i k ov wr)) (fun _ iv _ => n - (intOf iv).toNat)
 case atStart => exact ⟨0,k1,rfl,Nat.zero_le _,HI0⟩
 obtain ⟨i,k,rfl,hin,HI⟩:=hrel
 clear HI0
 by_cases hlt:i < n
 ·have hlt':(i:Int) < (n:Int):=by omega
  have he1:e1 = 0:=by
   rcases Int.decEq e1 0 with q | q
   ·have:=HN.out q; omega
   exact q
  subst he1
  obtain ⟨L,l,hown,hL,hl,hr,hg,hres,hcc,hel⟩:=HI.out
  have HX:=qH (HCC.out HS.out.szPos.1 wr k hr hres.1 (Nat.lt_of_lt_of_le HS.out.szPos.2 hres.le) hcc hg.size)
  have HE:=qH hel
  have HOW:=qH hown
  have HG:=qH hg
  have HRS:=qH hres
  have HCX:=qH hcc
  clear HI hel hr hcc hg hres hown
  go_wp2_with fail
  refine HX.out.mono ?_
  rintro e w2 ⟨vs,x,k2,e2,rfl,hvl,hv1,hRx,hr2,hg2,hres2⟩
  obtain ⟨v0,v1,v2,v3,v4,v5,rfl⟩:=len_6 hvl
  have h1:(#[v0,v1,v2,v3,v4,v5]:Array Value).all (·.oneCell') = true:=by
   rw [Array.all_eq_true']
   intro u hu
   exact hv1 u (by simpa using hu)
  obtain ⟨c0,c1,c2,f1,f2⟩:=(hr2.alloc (.cells #[v0,v1,v2,v3,v4,v5] 114)).cells
  have HR2:=qH hr2
  have HG2:=qH hg2
  have HS2:=qH hres2
  have HXX:=qH hRx
  obtain ⟨y,hy⟩:∃ y:Cel 6,y = ⟨[v0,v1,v2,v3,v4,v5],hvl,hv1⟩:=⟨_,rfl⟩
  have HY:Hid (y.val = [v0,v1,v2,v3,v4,v5]):=qH (by rw [hy]; rfl)
  have HO2:Hid (Own Cel.val 6 114 w2 w.heap.size _ L):=qH (HOW.out.kept hg2 (.inr (fun q => by have:=(HOW.out.base_le q).1; omega)))
  have HC2:=qH (aK hg2 HCX.out hcr)
  have hlen:(L.length + 1) * 64≤140737488355328:=by omega
  rw [<- HY.out] at HXX
  clear HX hr2 hg2 hres2 hRx hv1 hy
  rcases Int.decEq e2 0 with he | he
  ·have d0:(e2 != 0) = true:=by simpa using he
   have HEE:=qH he
   clear he
   go_wp2_with (refine wpList_store_row rfl 114 _ _ rfl w2.heap.size #[v0,v1,v2,v3,v4,v5] rfl rfl 114 _ (heap_alloc_new _ _) size114 rfl h1 ?_; rw [aC])
   go_ret
   exact ⟨_,[],k2,e2,rfl,Slv.nil _ _,HR2.out.alloc _,ap (an HG.out HG2.out) _,HS.out.list ((HRS.out.snoc HS2.out).manyErr HEE.out (by omega))⟩
  subst he
  go_wp2_with (first
   | (refine wpList_store_row rfl 114 _ _ rfl w2.heap.size #[v0,v1,v2,v3,v4,v5] rfl rfl 114 _ (heap_alloc_new _ _) size114 rfl h1 ?_; rw [aC])
   | (at_builtin; refine aP _ rfl _ _ 44 rfl w.heap.size 114 i0 z0 6 64 Tryz.underlying44 hi hz0 hz1 hz2 hz3 (by decide) (fun x => x.2.1) (fun x => x.2.2) _ L rfl ((HO2.out.alloc _).alloc _) (w2.heap.size + 1) 1 y rfl ?c0 ?c1 ?c2 ?c3 ?_))
  case c0 => exact fun j u hu => (aa (ah _ _ (by simp)) j).trans (by rw [HY.out] at hu; simpa using hu)
  case c1 => omega
  case c2 => omega
  case c3 => have:=Nat.le_trans HG.out.size HG2.out.size; simp; omega
  intro v' w' hown' hgo hat
  have HI2:Hid (GetI R p 6 114 99 r c s w k1 0 (i + 1) k2 v' w'):=qH (GetI.push HRR.out hrw hcw HOW.out hL hl HG.out HRS.out HE.out HG2.out HR2.out HC2.out HS2.out HXX.out (((Below.refl w2.heap.size w2).alloc (Nat.le_refl _) _).alloc (by simp) _) hown' hgo (by simpa using hat))
  clear hown' hgo hat HOW HE HO2 HG2 HR2 HC2 HS2 HXX HRS HG
  go_wp2_with fail
  go_roundw
  case rel => exact ⟨i + 1,k2,by go_num,by omega,HI2⟩
  simp [intOf]; omega
 have hlt':¬ (i:Int) < (n:Int):=by omega
 have hii:i = n:=by omega
 subst hii
 obtain ⟨l,hsl,hr,hg,hres⟩:=HI.out.slv HRR.out
 have HSL:=qH hsl
 have HR2:=qH hr
 have HG2:=qH hg
 have HS2:=qH hres
 clear hsl hr hg hres HI
 go_wp2_with fail
 go_ret
 exact ⟨_,l,k,e1,rfl,HSL.out,HR2.out,HG2.out,HS.out.list HS2.out⟩
theorem info116x:(Tryz.prog.info? 116).map (fun i => (i.zero.map (·.cells.size),i.size,i.bytes)) = some (some 2,2,32):=by kernel_rfl
theorem get164 {α:Type} (R:Rp α) (p:Rd α) (hR:Stb R) (r c k0:Nat) (s:ByteArray) (e0:Int) (w:World) (h:Rdr 99 r s k0 e0 w) (hk0:k0≤s.size) (hs:s.size≤549755813888) (hc:w.cell? ⟨c,0,none⟩ = some (.pointer (some ⟨r,0,none⟩))) (hcr:c≠r)
  (HC:e0 = 0→ClosC R p 2 165 99 r c s k0 w.heap.size) :
  Calls Tryz.prog 164 #[.pointer (some ⟨r,0,none⟩),.func (.func 165) #[] #[.pointer (some ⟨c,0,none⟩)]] w (bq R p 2 99 r s k0 e0 w):=by
 have hcw:=World.block_lt_of_cell? _ _ hc
 have hrw:=ae h
 have C:=qH (size195 r k0 s e0 w h hk0 (by omega))
 have HCC:=qH HC
 have HRR:=qH hR
 obtain ⟨i0,z0,hi,hz0,hz1,hz2,hz3⟩:=bk info116x
 clear h HC hR
 go_enter Tryz.func164,Tryz.ntmps164
 go_wp2_with fail
 refine C.out.mono ?_
 rintro e w1 ⟨n,k1,e1,rfl,hkn,hn0,hr,hg,hsz⟩
 have HI0:Hid (GetI R p 2 116 99 r c s w k1 e1 0 k1 (.slice none 0 0) w1):=qH (GetI.start R p 2 116 99 hsz.1 hr hg (aK hg hc hcr))
 have HS:=qH hsz
 have HN:=qH hn0
 clear C hr hg hsz hc hn0
 go_wp2_with fail
 go_loopw [5,9] (fun ov iv wr => ∃ i k:Nat,iv = .int .i64 (i:Int)∧i≤n∧Hid (GetI R p 2 116 99 r c s w k1 e1 i k ov wr)) (fun _ iv _ => n - (intOf iv).toNat)
 case atStart => exact ⟨0,k1,rfl,Nat.zero_le _,HI0⟩
 obtain ⟨i,k,rfl,hin,HI⟩:=hrel
 clear HI0
 by_cases hlt:i < n
 ·have hlt':(i:Int) < (n:Int):=by omega
  have he1:e1 = 0:=by
   rcases Int.decEq e1 0 with q | q
   ·have:=HN.out q; omega
   exact q
  subst he1
  obtain ⟨L,l,hown,hL,hl,hr,hg,hres,hcc,hel⟩:=HI.out
  have HX:=qH (HCC.out HS.out.szPos.1 wr k hr hres.1 (Nat.lt_of_lt_of_le HS.out.szPos.2 hres.le) hcc hg.size)
  have HE:=qH hel
  have HOW:=qH hown
  have HG:=qH hg
  have HRS:=qH hres
  have HCX:=qH hcc
  clear HI hel hr hcc hg hres hown
  go_wp2_with fail
  refine HX.out.mono ?_
  rintro e w2 ⟨vs,x,k2,e2,rfl,hvl,hv1,hRx,hr2,hg2,hres2⟩
  obtain ⟨v0,v1,rfl⟩:=len_2 hvl
  have h1:(#[v0,v1]:Array Value).all (·.oneCell') = true:=by
   rw [Array.all_eq_true']
   intro u hu
   exact hv1 u (by simpa using hu)
  obtain ⟨c0,c1,c2,f1,f2⟩:=(hr2.alloc (.cells #[v0,v1] 116)).cells
  have HR2:=qH hr2
  have HG2:=qH hg2
  have HS2:=qH hres2
  have HXX:=qH hRx
  obtain ⟨y,hy⟩:∃ y:Cel 2,y = ⟨[v0,v1],hvl,hv1⟩:=⟨_,rfl⟩
  have HY:Hid (y.val = [v0,v1]):=qH (by rw [hy]; rfl)
  have HO2:Hid (Own Cel.val 2 116 w2 w.heap.size _ L):=qH (HOW.out.kept hg2 (.inr (fun q => by have:=(HOW.out.base_le q).1; omega)))
  have HC2:=qH (aK hg2 HCX.out hcr)
  have hlen:(L.length + 1) * 32≤140737488355328:=by omega
  rw [<- HY.out] at HXX
  clear HX hr2 hg2 hres2 hRx hv1 hy
  rcases Int.decEq e2 0 with he | he
  ·have d0:(e2 != 0) = true:=by simpa using he
   have HEE:=qH he
   clear he
   go_wp2_with (refine wpList_store_row rfl 116 _ _ rfl w2.heap.size #[v0,v1] rfl rfl 116 _ (heap_alloc_new _ _) size116 rfl h1 ?_; rw [aC])
   go_ret
   exact ⟨_,[],k2,e2,rfl,Slv.nil _ _,HR2.out.alloc _,ap (an HG.out HG2.out) _,HS.out.list ((HRS.out.snoc HS2.out).manyErr HEE.out (by omega))⟩
  subst he
  go_wp2_with (first
   | (refine wpList_store_row rfl 116 _ _ rfl w2.heap.size #[v0,v1] rfl rfl 116 _ (heap_alloc_new _ _) size116 rfl h1 ?_; rw [aC])
   | (at_builtin; refine aP _ rfl _ _ 45 rfl w.heap.size 116 i0 z0 2 32 Tryz.underlying45 hi hz0 hz1 hz2 hz3 (by decide) (fun x => x.2.1) (fun x => x.2.2) _ L rfl ((HO2.out.alloc _).alloc _) (w2.heap.size + 1) 1 y rfl ?c0 ?c1 ?c2 ?c3 ?_))
  case c0 => exact fun j u hu => (aa (ah _ _ (by simp)) j).trans (by rw [HY.out] at hu; simpa using hu)
  case c1 => omega
  case c2 => omega
  case c3 => have:=Nat.le_trans HG.out.size HG2.out.size; simp; omega
  intro v' w' hown' hgo hat
  have HI2:Hid (GetI R p 2 116 99 r c s w k1 0 (i + 1) k2 v' w'):=qH (GetI.push HRR.out hrw hcw HOW.out hL hl HG.out HRS.out HE.out HG2.out HR2.out HC2.out HS2.out HXX.out (((Below.refl w2.heap.size w2).alloc (Nat.le_refl _) _).alloc (by simp) _) hown' hgo (by simpa using hat))
  clear hown' hgo hat HOW HE HO2 HG2 HR2 HC2 HS2 HXX HRS HG
  go_wp2_with fail
  go_roundw
  case rel => exact ⟨i + 1,k2,by go_num,by omega,HI2⟩
  simp [intOf]; omega
 have hlt':¬ (i:Int) < (n:Int):=by omega
 have hii:i = n:=by omega
 subst hii
 obtain ⟨l,hsl,hr,hg,hres⟩:=HI.out.slv HRR.out
 have HSL:=qH hsl
 have HR2:=qH hr
 have HG2:=qH hg
 have HS2:=qH hres
 clear hsl hr hg hres HI
 go_wp2_with fail
 go_ret
 exact ⟨_,l,k,e1,rfl,HSL.out,HR2.out,HG2.out,HS.out.list HS2.out⟩
theorem info141x:(Tryz.prog.info? 141).map (fun i => (i.zero.map (·.cells.size),i.size,i.bytes)) = some (some 3,3,32):=by kernel_rfl
theorem get171 {α:Type} (R:Rp α) (p:Rd α) (hR:Stb R) (r c k0:Nat) (s:ByteArray) (e0:Int) (w:World) (h:Rdr 99 r s k0 e0 w) (hk0:k0≤s.size) (hs:s.size≤549755813888) (hc:w.cell? ⟨c,0,none⟩ = some (.pointer (some ⟨r,0,none⟩))) (hcr:c≠r)
  (HC:e0 = 0→ClosC R p 3 172 99 r c s k0 w.heap.size) :
  Calls Tryz.prog 171 #[.pointer (some ⟨r,0,none⟩),.func (.func 172) #[] #[.pointer (some ⟨c,0,none⟩)]] w (bq R p 3 99 r s k0 e0 w):=by
 have hcw:=World.block_lt_of_cell? _ _ hc
 have hrw:=ae h
 have C:=qH (size195 r k0 s e0 w h hk0 (by omega))
 have HCC:=qH HC
 have HRR:=qH hR
 obtain ⟨i0,z0,hi,hz0,hz1,hz2,hz3⟩:=bk info141x
 clear h HC hR
 go_enter Tryz.func171,Tryz.ntmps171
 go_wp2_with fail
 refine C.out.mono ?_
 rintro e w1 ⟨n,k1,e1,rfl,hkn,hn0,hr,hg,hsz⟩
 have HI0:Hid (GetI R p 3 141 99 r c s w k1 e1 0 k1 (.slice none 0 0) w1):=qH (GetI.start R p 3 141 99 hsz.1 hr hg (aK hg hc hcr))
 have HS:=qH hsz
 have HN:=qH hn0
 clear C hr hg hsz hc hn0
 go_wp2_with fail
 go_loopw [5,9] (fun ov iv wr => ∃ i k:Nat,iv = .int .i64 (i:Int)∧i≤n∧Hid (GetI R p 3 141 99 r c s w k1 e1 i k ov wr)) (fun _ iv _ => n - (intOf iv).toNat)
 case atStart => exact ⟨0,k1,rfl,Nat.zero_le _,HI0⟩
 obtain ⟨i,k,rfl,hin,HI⟩:=hrel
 clear HI0
 by_cases hlt:i < n
 ·have hlt':(i:Int) < (n:Int):=by omega
  have he1:e1 = 0:=by
   rcases Int.decEq e1 0 with q | q
   ·have:=HN.out q; omega
   exact q
  subst he1
  obtain ⟨L,l,hown,hL,hl,hr,hg,hres,hcc,hel⟩:=HI.out
  have HX:=qH (HCC.out HS.out.szPos.1 wr k hr hres.1 (Nat.lt_of_lt_of_le HS.out.szPos.2 hres.le) hcc hg.size)
  have HE:=qH hel
  have HOW:=qH hown
  have HG:=qH hg
  have HRS:=qH hres
  have HCX:=qH hcc
  clear HI hel hr hcc hg hres hown
  go_wp2_with fail
  refine HX.out.mono ?_
  rintro e w2 ⟨vs,x,k2,e2,rfl,hvl,hv1,hRx,hr2,hg2,hres2⟩
  obtain ⟨v0,v1,v2,rfl⟩:=len_3 hvl
  have h1:(#[v0,v1,v2]:Array Value).all (·.oneCell') = true:=by
   rw [Array.all_eq_true']
   intro u hu
   exact hv1 u (by simpa using hu)
  obtain ⟨c0,c1,c2,f1,f2⟩:=(hr2.alloc (.cells #[v0,v1,v2] 141)).cells
  have HR2:=qH hr2
  have HG2:=qH hg2
  have HS2:=qH hres2
  have HXX:=qH hRx
  obtain ⟨y,hy⟩:∃ y:Cel 3,y = ⟨[v0,v1,v2],hvl,hv1⟩:=⟨_,rfl⟩
  have HY:Hid (y.val = [v0,v1,v2]):=qH (by rw [hy]; rfl)
  have HO2:Hid (Own Cel.val 3 141 w2 w.heap.size _ L):=qH (HOW.out.kept hg2 (.inr (fun q => by have:=(HOW.out.base_le q).1; omega)))
  have HC2:=qH (aK hg2 HCX.out hcr)
  have hlen:(L.length + 1) * 32≤140737488355328:=by omega
  rw [<- HY.out] at HXX
  clear HX hr2 hg2 hres2 hRx hv1 hy
  rcases Int.decEq e2 0 with he | he
  ·have d0:(e2 != 0) = true:=by simpa using he
   have HEE:=qH he
   clear he
   go_wp2_with (refine wpList_store_row rfl 141 _ _ rfl w2.heap.size #[v0,v1,v2] rfl rfl 141 _ (heap_alloc_new _ _) size141 rfl h1 ?_; rw [aC])
   go_ret
   exact ⟨_,[],k2,e2,rfl,Slv.nil _ _,HR2.out.alloc _,ap (an HG.out HG2.out) _,HS.out.list ((HRS.out.snoc HS2.out).manyErr HEE.out (by omega))⟩
  subst he
  go_wp2_with (first
   | (refine wpList_store_row rfl 141 _ _ rfl w2.heap.size #[v0,v1,v2] rfl rfl 141 _ (heap_alloc_new _ _) size141 rfl h1 ?_; rw [aC])
   | (at_builtin; refine aP _ rfl _ _ 41 rfl w.heap.size 141 i0 z0 3 32 Tryz.underlying41 hi hz0 hz1 hz2 hz3 (by decide) (fun x => x.2.1) (fun x => x.2.2) _ L rfl ((HO2.out.alloc _).alloc _) (w2.heap.size + 1) 1 y rfl ?c0 ?c1 ?c2 ?c3 ?_))
  case c0 => exact fun j u hu => (aa (ah _ _ (by simp)) j).trans (by rw [HY.out] at hu; simpa using hu)
  case c1 => omega
  case c2 => omega
  case c3 => have:=Nat.le_trans HG.out.size HG2.out.size; simp; omega
  intro v' w' hown' hgo hat
  have HI2:Hid (GetI R p 3 141 99 r c s w k1 0 (i + 1) k2 v' w'):=qH (GetI.push HRR.out hrw hcw HOW.out hL hl HG.out HRS.out HE.out HG2.out HR2.out HC2.out HS2.out HXX.out (((Below.refl w2.heap.size w2).alloc (Nat.le_refl _) _).alloc (by simp) _) hown' hgo (by simpa using hat))
  clear hown' hgo hat HOW HE HO2 HG2 HR2 HC2 HS2 HXX HRS HG
  go_wp2_with fail
  go_roundw
  case rel => exact ⟨i + 1,k2,by go_num,by omega,HI2⟩
  simp [intOf]; omega
 have hlt':¬ (i:Int) < (n:Int):=by omega
 have hii:i = n:=by omega
 subst hii
 obtain ⟨l,hsl,hr,hg,hres⟩:=HI.out.slv HRR.out
 have HSL:=qH hsl
 have HR2:=qH hr
 have HG2:=qH hg
 have HS2:=qH hres
 clear hsl hr hg hres HI
 go_wp2_with fail
 go_ret
 exact ⟨_,l,k,e1,rfl,HSL.out,HR2.out,HG2.out,HS.out.list HS2.out⟩
theorem info53x:(Tryz.prog.info? 53).map (fun i => (i.zero.map (·.cells.size),i.size,i.bytes)) = some (some 11,11,176):=by kernel_rfl
theorem get140 {α:Type} (R:Rp α) (p:Rd α) (hR:Stb R) (r c k0:Nat) (s:ByteArray) (e0:Int) (w:World) (h:Rdr 99 r s k0 e0 w) (hk0:k0≤s.size) (hs:s.size≤549755813888) (hc:w.cell? ⟨c,0,none⟩ = some (.pointer (some ⟨r,0,none⟩))) (hcr:c≠r)
  (HC:e0 = 0→ClosC R p 11 141 99 r c s k0 w.heap.size) :
  Calls Tryz.prog 140 #[.pointer (some ⟨r,0,none⟩),.func (.func 141) #[] #[.pointer (some ⟨c,0,none⟩)]] w (bq R p 11 99 r s k0 e0 w):=by
 have hcw:=World.block_lt_of_cell? _ _ hc
 have hrw:=ae h
 have C:=qH (size195 r k0 s e0 w h hk0 (by omega))
 have HCC:=qH HC
 have HRR:=qH hR
 obtain ⟨i0,z0,hi,hz0,hz1,hz2,hz3⟩:=bk info53x
 clear h HC hR
 go_enter Tryz.func140,Tryz.ntmps140
 go_wp2_with fail
 refine C.out.mono ?_
 rintro e w1 ⟨n,k1,e1,rfl,hkn,hn0,hr,hg,hsz⟩
 have HI0:Hid (GetI R p 11 53 99 r c s w k1 e1 0 k1 (.slice none 0 0) w1):=qH (GetI.start R p 11 53 99 hsz.1 hr hg (aK hg hc hcr))
 have HS:=qH hsz
 have HN:=qH hn0
 clear C hr hg hsz hc hn0
 go_wp2_with fail
 go_loopw [5,9] (fun ov iv wr => ∃ i k:Nat,iv = .int .i64 (i:Int)∧i≤n∧Hid (GetI R p 11 53 99 r c s w k1 e1 i k ov wr)) (fun _ iv _ => n - (intOf iv).toNat)
 case atStart => exact ⟨0,k1,rfl,Nat.zero_le _,HI0⟩
 obtain ⟨i,k,rfl,hin,HI⟩:=hrel
 clear HI0
 by_cases hlt:i < n
 ·have hlt':(i:Int) < (n:Int):=by omega
  have he1:e1 = 0:=by
   rcases Int.decEq e1 0 with q | q
   ·have:=HN.out q; omega
   exact q
  subst he1
  obtain ⟨L,l,hown,hL,hl,hr,hg,hres,hcc,hel⟩:=HI.out
  have HX:=qH (HCC.out HS.out.szPos.1 wr k hr hres.1 (Nat.lt_of_lt_of_le HS.out.szPos.2 hres.le) hcc hg.size)
  have HE:=qH hel
  have HOW:=qH hown
  have HG:=qH hg
  have HRS:=qH hres
  have HCX:=qH hcc
  clear HI hel hr hcc hg hres hown
  go_wp2_with fail
  refine HX.out.mono ?_
  rintro e w2 ⟨vs,x,k2,e2,rfl,hvl,hv1,hRx,hr2,hg2,hres2⟩
  obtain ⟨v0,v1,v2,v3,v4,v5,v6,v7,v8,v9,v10,rfl⟩:=len_11 hvl
  have h1:(#[v0,v1,v2,v3,v4,v5,v6,v7,v8,v9,v10]:Array Value).all (·.oneCell') = true:=by
   rw [Array.all_eq_true']
   intro u hu
   exact hv1 u (by simpa using hu)
  obtain ⟨c0,c1,c2,f1,f2⟩:=(hr2.alloc (.cells #[v0,v1,v2,v3,v4,v5,v6,v7,v8,v9,v10] 53)).cells
  have HR2:=qH hr2
  have HG2:=qH hg2
  have HS2:=qH hres2
  have HXX:=qH hRx
  obtain ⟨y,hy⟩:∃ y:Cel 11,y = ⟨[v0,v1,v2,v3,v4,v5,v6,v7,v8,v9,v10],hvl,hv1⟩:=⟨_,rfl⟩
  have HY:Hid (y.val = [v0,v1,v2,v3,v4,v5,v6,v7,v8,v9,v10]):=qH (by rw [hy]; rfl)
  have HO2:Hid (Own Cel.val 11 53 w2 w.heap.size _ L):=qH (HOW.out.kept hg2 (.inr (fun q => by have:=(HOW.out.base_le q).1; omega)))
  have HC2:=qH (aK hg2 HCX.out hcr)
  have hlen:(L.length + 1) * 176≤140737488355328:=by omega
  rw [<- HY.out] at HXX
  clear HX hr2 hg2 hres2 hRx hv1 hy
  rcases Int.decEq e2 0 with he | he
  ·have d0:(e2 != 0) = true:=by simpa using he
   have HEE:=qH he
   clear he
   go_wp2_with (refine wpList_store_row rfl 53 _ _ rfl w2.heap.size #[v0,v1,v2,v3,v4,v5,v6,v7,v8,v9,v10] rfl rfl 53 _ (heap_alloc_new _ _) size53 rfl h1 ?_; rw [aC])
   go_ret
   exact ⟨_,[],k2,e2,rfl,Slv.nil _ _,HR2.out.alloc _,ap (an HG.out HG2.out) _,HS.out.list ((HRS.out.snoc HS2.out).manyErr HEE.out (by omega))⟩
  subst he
  go_wp2_with (first
   | (refine wpList_store_row rfl 53 _ _ rfl w2.heap.size #[v0,v1,v2,v3,v4,v5,v6,v7,v8,v9,v10] rfl rfl 53 _ (heap_alloc_new _ _) size53 rfl h1 ?_; rw [aC])
   | (at_builtin; refine aP _ rfl _ _ 33 rfl w.heap.size 53 i0 z0 11 176 Tryz.underlying33 hi hz0 hz1 hz2 hz3 (by decide) (fun x => x.2.1) (fun x => x.2.2) _ L rfl ((HO2.out.alloc _).alloc _) (w2.heap.size + 1) 1 y rfl ?c0 ?c1 ?c2 ?c3 ?_))
  case c0 => exact fun j u hu => (aa (ah _ _ (by simp)) j).trans (by rw [HY.out] at hu; simpa using hu)
  case c1 => omega
  case c2 => omega
  case c3 => have:=Nat.le_trans HG.out.size HG2.out.size; simp; omega
  intro v' w' hown' hgo hat
  have HI2:Hid (GetI R p 11 53 99 r c s w k1 0 (i + 1) k2 v' w'):=qH (GetI.push HRR.out hrw hcw HOW.out hL hl HG.out HRS.out HE.out HG2.out HR2.out HC2.out HS2.out HXX.out (((Below.refl w2.heap.size w2).alloc (Nat.le_refl _) _).alloc (by simp) _) hown' hgo (by simpa using hat))
  clear hown' hgo hat HOW HE HO2 HG2 HR2 HC2 HS2 HXX HRS HG
  go_wp2_with fail
  go_roundw
  case rel => exact ⟨i + 1,k2,by go_num,by omega,HI2⟩
  simp [intOf]; omega
 have hlt':¬ (i:Int) < (n:Int):=by omega
 have hii:i = n:=by omega
 subst hii
 obtain ⟨l,hsl,hr,hg,hres⟩:=HI.out.slv HRR.out
 have HSL:=qH hsl
 have HR2:=qH hr
 have HG2:=qH hg
 have HS2:=qH hres
 clear hsl hr hg hres HI
 go_wp2_with fail
 go_ret
 exact ⟨_,l,k,e1,rfl,HSL.out,HR2.out,HG2.out,HS.out.list HS2.out⟩
theorem info156x:(Tryz.prog.info? 156).map (fun i => (i.zero.map (·.cells.size),i.size,i.bytes)) = some (some 6,6,112):=by kernel_rfl
theorem get151 {α:Type} (R:Rp α) (p:Rd α) (hR:Stb R) (r c k0:Nat) (s:ByteArray) (e0:Int) (w:World) (h:Rdr 99 r s k0 e0 w) (hk0:k0≤s.size) (hs:s.size≤549755813888) (hc:w.cell? ⟨c,0,none⟩ = some (.pointer (some ⟨r,0,none⟩))) (hcr:c≠r)
  (HC:e0 = 0→ClosC R p 6 152 99 r c s k0 w.heap.size) :
  Calls Tryz.prog 151 #[.pointer (some ⟨r,0,none⟩),.func (.func 152) #[] #[.pointer (some ⟨c,0,none⟩)]] w (bq R p 6 99 r s k0 e0 w):=by
 have hcw:=World.block_lt_of_cell? _ _ hc
 have hrw:=ae h
 have C:=qH (size195 r k0 s e0 w h hk0 (by omega))
 have HCC:=qH HC
 have HRR:=qH hR
 obtain ⟨i0,z0,hi,hz0,hz1,hz2,hz3⟩:=bk info156x
 clear h HC hR
 go_enter Tryz.func151,Tryz.ntmps151
 go_wp2_with fail
 refine C.out.mono ?_
 rintro e w1 ⟨n,k1,e1,rfl,hkn,hn0,hr,hg,hsz⟩
 have HI0:Hid (GetI R p 6 156 99 r c s w k1 e1 0 k1 (.slice none 0 0) w1):=qH (GetI.start R p 6 156 99 hsz.1 hr hg (aK hg hc hcr))
 have HS:=qH hsz
 have HN:=qH hn0
 clear C hr hg hsz hc hn0
 go_wp2_with fail
 go_loopw [5,9] (fun ov iv wr => ∃ i k:Nat,iv = .int .i64 (i:Int)∧i≤n∧Hid (GetI R p 6 156 99 r c s w k1 e1 i k ov wr)) (fun _ iv _ => n - (intOf iv).toNat)
 case atStart => exact ⟨0,k1,rfl,Nat.zero_le _,HI0⟩
 obtain ⟨i,k,rfl,hin,HI⟩:=hrel
 clear HI0
 by_cases hlt:i < n
 ·have hlt':(i:Int) < (n:Int):=by omega
  have he1:e1 = 0:=by
   rcases Int.decEq e1 0 with q | q
   ·have:=HN.out q; omega
   exact q
  subst he1
  obtain ⟨L,l,hown,hL,hl,hr,hg,hres,hcc,hel⟩:=HI.out
  have HX:=qH (HCC.out HS.out.szPos.1 wr k hr hres.1 (Nat.lt_of_lt_of_le HS.out.szPos.2 hres.le) hcc hg.size)
  have HE:=qH hel
  have HOW:=qH hown
  have HG:=qH hg
  have HRS:=qH hres
  have HCX:=qH hcc
  clear HI hel hr hcc hg hres hown
  go_wp2_with fail
  refine HX.out.mono ?_
  rintro e w2 ⟨vs,x,k2,e2,rfl,hvl,hv1,hRx,hr2,hg2,hres2⟩
  obtain ⟨v0,v1,v2,v3,v4,v5,rfl⟩:=len_6 hvl
  have h1:(#[v0,v1,v2,v3,v4,v5]:Array Value).all (·.oneCell') = true:=by
   rw [Array.all_eq_true']
   intro u hu
   exact hv1 u (by simpa using hu)
  obtain ⟨c0,c1,c2,f1,f2⟩:=(hr2.alloc (.cells #[v0,v1,v2,v3,v4,v5] 156)).cells
  have HR2:=qH hr2
  have HG2:=qH hg2
  have HS2:=qH hres2
  have HXX:=qH hRx
  obtain ⟨y,hy⟩:∃ y:Cel 6,y = ⟨[v0,v1,v2,v3,v4,v5],hvl,hv1⟩:=⟨_,rfl⟩
  have HY:Hid (y.val = [v0,v1,v2,v3,v4,v5]):=qH (by rw [hy]; rfl)
  have HO2:Hid (Own Cel.val 6 156 w2 w.heap.size _ L):=qH (HOW.out.kept hg2 (.inr (fun q => by have:=(HOW.out.base_le q).1; omega)))
  have HC2:=qH (aK hg2 HCX.out hcr)
  have hlen:(L.length + 1) * 112≤140737488355328:=by omega
  rw [<- HY.out] at HXX
  clear HX hr2 hg2 hres2 hRx hv1 hy
  rcases Int.decEq e2 0 with he | he
  ·have d0:(e2 != 0) = true:=by simpa using he
   have HEE:=qH he
   clear he
   go_wp2_with (refine wpList_store_row rfl 156 _ _ rfl w2.heap.size #[v0,v1,v2,v3,v4,v5] rfl rfl 156 _ (heap_alloc_new _ _) size156 rfl h1 ?_; rw [aC])
   go_ret
   exact ⟨_,[],k2,e2,rfl,Slv.nil _ _,HR2.out.alloc _,ap (an HG.out HG2.out) _,HS.out.list ((HRS.out.snoc HS2.out).manyErr HEE.out (by omega))⟩
  subst he
  go_wp2_with (first
   | (refine wpList_store_row rfl 156 _ _ rfl w2.heap.size #[v0,v1,v2,v3,v4,v5] rfl rfl 156 _ (heap_alloc_new _ _) size156 rfl h1 ?_; rw [aC])
   | (at_builtin; refine aP _ rfl _ _ 51 rfl w.heap.size 156 i0 z0 6 112 Tryz.underlying51 hi hz0 hz1 hz2 hz3 (by decide) (fun x => x.2.1) (fun x => x.2.2) _ L rfl ((HO2.out.alloc _).alloc _) (w2.heap.size + 1) 1 y rfl ?c0 ?c1 ?c2 ?c3 ?_))
  case c0 => exact fun j u hu => (aa (ah _ _ (by simp)) j).trans (by rw [HY.out] at hu; simpa using hu)
  case c1 => omega
  case c2 => omega
  case c3 => have:=Nat.le_trans HG.out.size HG2.out.size; simp; omega
  intro v' w' hown' hgo hat
  have HI2:Hid (GetI R p 6 156 99 r c s w k1 0 (i + 1) k2 v' w'):=qH (GetI.push HRR.out hrw hcw HOW.out hL hl HG.out HRS.out HE.out HG2.out HR2.out HC2.out HS2.out HXX.out (((Below.refl w2.heap.size w2).alloc (Nat.le_refl _) _).alloc (by simp) _) hown' hgo (by simpa using hat))
  clear hown' hgo hat HOW HE HO2 HG2 HR2 HC2 HS2 HXX HRS HG
  go_wp2_with fail
  go_roundw
  case rel => exact ⟨i + 1,k2,by go_num,by omega,HI2⟩
  simp [intOf]; omega
 have hlt':¬ (i:Int) < (n:Int):=by omega
 have hii:i = n:=by omega
 subst hii
 obtain ⟨l,hsl,hr,hg,hres⟩:=HI.out.slv HRR.out
 have HSL:=qH hsl
 have HR2:=qH hr
 have HG2:=qH hg
 have HS2:=qH hres
 clear hsl hr hg hres HI
 go_wp2_with fail
 go_ret
 exact ⟨_,l,k,e1,rfl,HSL.out,HR2.out,HG2.out,HS.out.list HS2.out⟩
theorem info174x:(Tryz.prog.info? 174).map (fun i => (i.zero.map (·.cells.size),i.size,i.bytes)) = some (some 7,7,120):=by kernel_rfl
theorem get153 {α:Type} (R:Rp α) (p:Rd α) (hR:Stb R) (r c k0:Nat) (s:ByteArray) (e0:Int) (w:World) (h:Rdr 99 r s k0 e0 w) (hk0:k0≤s.size) (hs:s.size≤549755813888) (hc:w.cell? ⟨c,0,none⟩ = some (.pointer (some ⟨r,0,none⟩))) (hcr:c≠r)
  (HC:e0 = 0→ClosC R p 7 154 99 r c s k0 w.heap.size) :
  Calls Tryz.prog 153 #[.pointer (some ⟨r,0,none⟩),.func (.func 154) #[] #[.pointer (some ⟨c,0,none⟩)]] w (bq R p 7 99 r s k0 e0 w):=by
 have hcw:=World.block_lt_of_cell? _ _ hc
 have hrw:=ae h
 have C:=qH (size195 r k0 s e0 w h hk0 (by omega))
 have HCC:=qH HC
 have HRR:=qH hR
 obtain ⟨i0,z0,hi,hz0,hz1,hz2,hz3⟩:=bk info174x
 clear h HC hR
 go_enter Tryz.func153,Tryz.ntmps153
 go_wp2_with fail
 refine C.out.mono ?_
 rintro e w1 ⟨n,k1,e1,rfl,hkn,hn0,hr,hg,hsz⟩
 have HI0:Hid (GetI R p 7 174 99 r c s w k1 e1 0 k1 (.slice none 0 0) w1):=qH (GetI.start R p 7 174 99 hsz.1 hr hg (aK hg hc hcr))
 have HS:=qH hsz
 have HN:=qH hn0
 clear C hr hg hsz hc hn0
 go_wp2_with fail
 go_loopw [5,9] (fun ov iv wr => ∃ i k:Nat,iv = .int .i64 (i:Int)∧i≤n∧Hid (GetI R p 7 174 99 r c s w k1 e1 i k ov wr)) (fun _ iv _ => n - (intOf iv).toNat)
 case atStart => exact ⟨0,k1,rfl,Nat.zero_le _,HI0⟩
 obtain ⟨i,k,rfl,hin,HI⟩:=hrel
 clear HI0
 by_cases hlt:i < n
 ·have hlt':(i:Int) < (n:Int):=by omega
  have he1:e1 = 0:=by
   rcases Int.decEq e1 0 with q | q
   ·have:=HN.out q; omega
   exact q
  subst he1
  obtain ⟨L,l,hown,hL,hl,hr,hg,hres,hcc,hel⟩:=HI.out
  have HX:=qH (HCC.out HS.out.szPos.1 wr k hr hres.1 (Nat.lt_of_lt_of_le HS.out.szPos.2 hres.le) hcc hg.size)
  have HE:=qH hel
  have HOW:=qH hown
  have HG:=qH hg
  have HRS:=qH hres
  have HCX:=qH hcc
  clear HI hel hr hcc hg hres hown
  go_wp2_with fail
  refine HX.out.mono ?_
  rintro e w2 ⟨vs,x,k2,e2,rfl,hvl,hv1,hRx,hr2,hg2,hres2⟩
  obtain ⟨v0,v1,v2,v3,v4,v5,v6,rfl⟩:=len_7 hvl
  have h1:(#[v0,v1,v2,v3,v4,v5,v6]:Array Value).all (·.oneCell') = true:=by
   rw [Array.all_eq_true']
   intro u hu
   exact hv1 u (by simpa using hu)
  obtain ⟨c0,c1,c2,f1,f2⟩:=(hr2.alloc (.cells #[v0,v1,v2,v3,v4,v5,v6] 174)).cells
  have HR2:=qH hr2
  have HG2:=qH hg2
  have HS2:=qH hres2
  have HXX:=qH hRx
  obtain ⟨y,hy⟩:∃ y:Cel 7,y = ⟨[v0,v1,v2,v3,v4,v5,v6],hvl,hv1⟩:=⟨_,rfl⟩
  have HY:Hid (y.val = [v0,v1,v2,v3,v4,v5,v6]):=qH (by rw [hy]; rfl)
  have HO2:Hid (Own Cel.val 7 174 w2 w.heap.size _ L):=qH (HOW.out.kept hg2 (.inr (fun q => by have:=(HOW.out.base_le q).1; omega)))
  have HC2:=qH (aK hg2 HCX.out hcr)
  have hlen:(L.length + 1) * 120≤140737488355328:=by omega
  rw [<- HY.out] at HXX
  clear HX hr2 hg2 hres2 hRx hv1 hy
  rcases Int.decEq e2 0 with he | he
  ·have d0:(e2 != 0) = true:=by simpa using he
   have HEE:=qH he
   clear he
   go_wp2_with (refine wpList_store_row rfl 174 _ _ rfl w2.heap.size #[v0,v1,v2,v3,v4,v5,v6] rfl rfl 174 _ (heap_alloc_new _ _) size174 rfl h1 ?_; rw [aC])
   go_ret
   exact ⟨_,[],k2,e2,rfl,Slv.nil _ _,HR2.out.alloc _,ap (an HG.out HG2.out) _,HS.out.list ((HRS.out.snoc HS2.out).manyErr HEE.out (by omega))⟩
  subst he
  go_wp2_with (first
   | (refine wpList_store_row rfl 174 _ _ rfl w2.heap.size #[v0,v1,v2,v3,v4,v5,v6] rfl rfl 174 _ (heap_alloc_new _ _) size174 rfl h1 ?_; rw [aC])
   | (at_builtin; refine aP _ rfl _ _ 66 rfl w.heap.size 174 i0 z0 7 120 Tryz.underlying66 hi hz0 hz1 hz2 hz3 (by decide) (fun x => x.2.1) (fun x => x.2.2) _ L rfl ((HO2.out.alloc _).alloc _) (w2.heap.size + 1) 1 y rfl ?c0 ?c1 ?c2 ?c3 ?_))
  case c0 => exact fun j u hu => (aa (ah _ _ (by simp)) j).trans (by rw [HY.out] at hu; simpa using hu)
  case c1 => omega
  case c2 => omega
  case c3 => have:=Nat.le_trans HG.out.size HG2.out.size; simp; omega
  intro v' w' hown' hgo hat
  have HI2:Hid (GetI R p 7 174 99 r c s w k1 0 (i + 1) k2 v' w'):=qH (GetI.push HRR.out hrw hcw HOW.out hL hl HG.out HRS.out HE.out HG2.out HR2.out HC2.out HS2.out HXX.out (((Below.refl w2.heap.size w2).alloc (Nat.le_refl _) _).alloc (by simp) _) hown' hgo (by simpa using hat))
  clear hown' hgo hat HOW HE HO2 HG2 HR2 HC2 HS2 HXX HRS HG
  go_wp2_with fail
  go_roundw
  case rel => exact ⟨i + 1,k2,by go_num,by omega,HI2⟩
  simp [intOf]; omega
 have hlt':¬ (i:Int) < (n:Int):=by omega
 have hii:i = n:=by omega
 subst hii
 obtain ⟨l,hsl,hr,hg,hres⟩:=HI.out.slv HRR.out
 have HSL:=qH hsl
 have HR2:=qH hr
 have HG2:=qH hg
 have HS2:=qH hres
 clear hsl hr hg hres HI
 go_wp2_with fail
 go_ret
 exact ⟨_,l,k,e1,rfl,HSL.out,HR2.out,HG2.out,HS.out.list HS2.out⟩
end Go.Proofs.YtmhhcfceikcfbaaGreat
