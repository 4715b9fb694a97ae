/- Walks: the readers of lists. -/
import Derived.Test.YtmhhcfceikcfbaaGreatDeR2
namespace Go.Proofs.YtmhhcfceikcfbaaGreat
open Go.RowKit
set_option maxRecDepth 100000
set_option maxHeartbeats 4000000
def RecC {α:Type} (R:Rp α) (p:Rd α) (sz ty r:Nat) (s:ByteArray) (k0:Nat) (e0:Int) (w:World) (e':Ending) (w':World):Prop :=
 ∃ (vs:List Value) (x:α) (k':Nat) (e2:Int),e' = .returned (.agg vs.toArray)∧vs.length = sz∧(∀ u∈vs,u.oneCell' = true)∧R w' (fun b => w.heap.size≤b∧b < w'.heap.size) vs x∧Rdr ty r s k' e2 w'∧w.grownBy w' (some r)∧Res p s k0 e0 x k' e2
def ClosC {α:Type} (R:Rp α) (p:Rd α) (sz:Nat) (F ty r c:Nat) (s:ByteArray) (kmin B:Nat):Prop:=∀ (wr:World) (k:Nat),Rdr ty r s k 0 wr→k≤s.size→kmin < k→wr.cell? ⟨c,0,none⟩ = some (.pointer (some ⟨r,0,none⟩))→B≤wr.heap.size →
 Calls Tryz.prog F #[.pointer (some ⟨c,0,none⟩)] wr (RecC R p sz ty r s k 0 wr)
theorem rdS_pos {l:List Nat} {n j:Nat} (hl:∀ b∈l,b < 256) (h:rdS l = .ok n j):0 < j:=by
 obtain ⟨_,h2,_⟩:=rdS_only hl h
 rcases Nat.eq_zero_or_pos j with q | q
 ·subst q
  exact absurd h2.symm (encN_ne _)
 exact q
theorem Res.szPos {s:ByteArray} {k k' n:Nat} {e:Int} (h:Res rdS s k e n k' 0):e = 0∧k < k':=by
 obtain ⟨h0,j,hp,hk⟩:=h.ok0
 have:=rdS_pos (fun b hb => bytesN_lt s b (List.mem_of_mem_drop hb)) hp
 exact ⟨h0,by omega⟩
theorem Res.le {α:Type} {p:Rd α} {s:ByteArray} {k k':Nat} {e:Int} {x:α} (h:Res p s k e x k' 0):k≤k':=by
 obtain ⟨_,j,_,hk⟩:=h.ok0
 omega
def bq {α:Type} (R:Rp α) (p:Rd α) (sz ty r:Nat) (s:ByteArray) (k0:Nat) (e0:Int) (w:World) (e':Ending) (w':World):Prop :=
 ∃ (v:Value) (l:List α) (k':Nat) (e2:Int),e' = .returned v∧Slv R sz w' (fun b => w.heap.size≤b∧b < w'.heap.size) v l∧Rdr ty r s k' e2 w'∧w.grownBy w' (some r)∧Res (be p) s k0 e0 l k' e2
theorem bk {o:Option TypeInfo} {a b:Nat} (h:o.map (fun i => (i.zero.map (·.cells.size),i.size,i.bytes)) = some (some a,a,b)):∃ i z,o = some i∧i.zero = some z∧i.size = a∧i.bytes = b∧z.cells.size = a:=by
 cases o with
 | none => simp at h
 | some i =>
  simp only [Option.map_some,Option.some.injEq,Prod.mk.injEq] at h
  obtain ⟨h1,h2,h3⟩:=h
  cases hz:i.zero with
  | none => rw [hz] at h1; simp at h1
  | some z => rw [hz] at h1; exact ⟨i,z,rfl,hz,h2,h3,by simpa using h1⟩
theorem info187x:(Tryz.prog.info? 187).map (fun i => (i.zero.map (·.cells.size),i.size,i.bytes)) = some (some 2,2,16):=by kernel_rfl
theorem get198 {α:Type} (R:Rp α) (p:Rd α) (hR:Stb R) (r c k0:Nat) (s:ByteArray) (e0:Int) (w:World) (h:Rdr 99 r s k0 e0 w) (hk0:k0≤s.size) (hs:s.size≤549755813888) (hc:w.cell? ⟨c,0,none⟩ = some (.pointer (some ⟨r,0,none⟩))) (hcr:c≠r)
  (HC:e0 = 0→ClosC R p 2 199 99 r c s k0 w.heap.size) :
  Calls Tryz.prog 198 #[.pointer (some ⟨r,0,none⟩),.func (.func 199) #[] #[.pointer (some ⟨c,0,none⟩)]] w (bq R p 2 99 r s k0 e0 w):=by
 have hcw:=World.block_lt_of_cell? _ _ hc
 have hrw:=ae h
 have C:=qH (size195 r k0 s e0 w h hk0 (by omega))
 have HCC:=qH HC
 have HRR:=qH hR
 obtain ⟨i0,z0,hi,hz0,hz1,hz2,hz3⟩:=bk info187x
 clear h HC hR
 go_enter Tryz.func198,Tryz.ntmps198
 go_wp2_with fail
 refine C.out.mono ?_
 rintro e w1 ⟨n,k1,e1,rfl,hkn,hn0,hr,hg,hsz⟩
 have HI0:Hid (GetI R p 2 187 99 r c s w k1 e1 0 k1 (.slice none 0 0) w1):=qH (GetI.start R p 2 187 99 hsz.1 hr hg (aK hg hc hcr))
 have HS:=qH hsz
 have HN:=qH hn0
 clear C hr hg hsz hc hn0
 go_wp2_with fail
 go_loopw [5,9] (fun ov iv wr => ∃ i k:Nat,iv = .int .i64 (i:Int)∧i≤n∧Hid (GetI R p 2 187 99 r c s w k1 e1 i k ov wr)) (fun _ iv _ => n - (intOf iv).toNat)
 case atStart => exact ⟨0,k1,rfl,Nat.zero_le _,HI0⟩
 obtain ⟨i,k,rfl,hin,HI⟩:=hrel
 clear HI0
 by_cases hlt:i < n
 ·have hlt':(i:Int) < (n:Int):=by omega
  have he1:e1 = 0:=by
   rcases Int.decEq e1 0 with q | q
   ·have:=HN.out q; omega
   exact q
  subst he1
  obtain ⟨L,l,hown,hL,hl,hr,hg,hres,hcc,hel⟩:=HI.out
  have HX:=qH (HCC.out HS.out.szPos.1 wr k hr hres.1 (Nat.lt_of_lt_of_le HS.out.szPos.2 hres.le) hcc hg.size)
  have HE:=qH hel
  have HOW:=qH hown
  have HG:=qH hg
  have HRS:=qH hres
  have HCX:=qH hcc
  clear HI hel hr hcc hg hres hown
  go_wp2_with fail
  refine HX.out.mono ?_
  rintro e w2 ⟨vs,x,k2,e2,rfl,hvl,hv1,hRx,hr2,hg2,hres2⟩
  obtain ⟨v0,v1,rfl⟩:=len_2 hvl
  have h1:(#[v0,v1]:Array Value).all (·.oneCell') = true:=by
   rw [Array.all_eq_true']
   intro u hu
   exact hv1 u (by simpa using hu)
  obtain ⟨c0,c1,c2,f1,f2⟩:=(hr2.alloc (.cells #[v0,v1] 187)).cells
  have HR2:=qH hr2
  have HG2:=qH hg2
  have HS2:=qH hres2
  have HXX:=qH hRx
  obtain ⟨y,hy⟩:∃ y:Cel 2,y = ⟨[v0,v1],hvl,hv1⟩:=⟨_,rfl⟩
  have HY:Hid (y.val = [v0,v1]):=qH (by rw [hy]; rfl)
  have HO2:Hid (Own Cel.val 2 187 w2 w.heap.size _ L):=qH (HOW.out.kept hg2 (.inr (fun q => by have:=(HOW.out.base_le q).1; omega)))
  have HC2:=qH (aK hg2 HCX.out hcr)
  have hlen:(L.length + 1) * 16≤140737488355328:=by omega
  rw [<- HY.out] at HXX
  clear HX hr2 hg2 hres2 hRx hv1 hy
  rcases Int.decEq e2 0 with he | he
  ·have d0:(e2 != 0) = true:=by simpa using he
   have HEE:=qH he
   clear he
   go_wp2_with (refine wpList_store_row rfl 187 _ _ rfl w2.heap.size #[v0,v1] rfl rfl 187 _ (heap_alloc_new _ _) size187 rfl h1 ?_; rw [aC])
   go_ret
   exact ⟨_,[],k2,e2,rfl,Slv.nil _ _,HR2.out.alloc _,ap (an HG.out HG2.out) _,HS.out.list ((HRS.out.snoc HS2.out).manyErr HEE.out (by omega))⟩
  subst he
  go_wp2_with (first
   | (refine wpList_store_row rfl 187 _ _ rfl w2.heap.size #[v0,v1] rfl rfl 187 _ (heap_alloc_new _ _) size187 rfl h1 ?_; rw [aC])
   | (at_builtin; refine aP _ rfl _ _ 34 rfl w.heap.size 187 i0 z0 2 16 Tryz.underlying34 hi hz0 hz1 hz2 hz3 (by decide) (fun x => x.2.1) (fun x => x.2.2) _ L rfl ((HO2.out.alloc _).alloc _) (w2.heap.size + 1) 1 y rfl ?c0 ?c1 ?c2 ?c3 ?_))
  case c0 => exact fun j u hu => (aa (ah _ _ (by simp)) j).trans (by rw [HY.out] at hu; simpa using hu)
  case c1 => omega
  case c2 => omega
  case c3 => have:=Nat.le_trans HG.out.size HG2.out.size; simp; omega
  intro v' w' hown' hgo hat
  have HI2:Hid (GetI R p 2 187 99 r c s w k1 0 (i + 1) k2 v' w'):=qH (GetI.push HRR.out hrw hcw HOW.out hL hl HG.out HRS.out HE.out HG2.out HR2.out HC2.out HS2.out HXX.out (((Below.refl w2.heap.size w2).alloc (Nat.le_refl _) _).alloc (by simp) _) hown' hgo (by simpa using hat))
  clear hown' hgo hat HOW HE HO2 HG2 HR2 HC2 HS2 HXX HRS HG
  go_wp2_with fail
  go_roundw
  case rel => exact ⟨i + 1,k2,by go_num,by omega,HI2⟩
  simp [intOf]; omega
 have hlt':¬ (i:Int) < (n:Int):=by omega
 have hii:i = n:=by omega
 subst hii
 obtain ⟨l,hsl,hr,hg,hres⟩:=HI.out.slv HRR.out
 have HSL:=qH hsl
 have HR2:=qH hr
 have HG2:=qH hg
 have HS2:=qH hres
 clear hsl hr hg hres HI
 go_wp2_with fail
 go_ret
 exact ⟨_,l,k,e1,rfl,HSL.out,HR2.out,HG2.out,HS.out.list HS2.out⟩
theorem info190x:(Tryz.prog.info? 190).map (fun i => (i.zero.map (·.cells.size),i.size,i.bytes)) = some (some 2,2,16):=by kernel_rfl
theorem get167 {α:Type} (R:Rp α) (p:Rd α) (hR:Stb R) (r c k0:Nat) (s:ByteArray) (e0:Int) (w:World) (h:Rdr 99 r s k0 e0 w) (hk0:k0≤s.size) (hs:s.size≤549755813888) (hc:w.cell? ⟨c,0,none⟩ = some (.pointer (some ⟨r,0,none⟩))) (hcr:c≠r)
  (HC:e0 = 0→ClosC R p 2 168 99 r c s k0 w.heap.size) :
  Calls Tryz.prog 167 #[.pointer (some ⟨r,0,none⟩),.func (.func 168) #[] #[.pointer (some ⟨c,0,none⟩)]] w (bq R p 2 99 r s k0 e0 w):=by
 have hcw:=World.block_lt_of_cell? _ _ hc
 have hrw:=ae h
 have C:=qH (size195 r k0 s e0 w h hk0 (by omega))
 have HCC:=qH HC
 have HRR:=qH hR
 obtain ⟨i0,z0,hi,hz0,hz1,hz2,hz3⟩:=bk info190x
 clear h HC hR
 go_enter Tryz.func167,Tryz.ntmps167
 go_wp2_with fail
 refine C.out.mono ?_
 rintro e w1 ⟨n,k1,e1,rfl,hkn,hn0,hr,hg,hsz⟩
 have HI0:Hid (GetI R p 2 190 99 r c s w k1 e1 0 k1 (.slice none 0 0) w1):=qH (GetI.start R p 2 190 99 hsz.1 hr hg (aK hg hc hcr))
 have HS:=qH hsz
 have HN:=qH hn0
 clear C hr hg hsz hc hn0
 go_wp2_with fail
 go_loopw [5,9] (fun ov iv wr => ∃ i k:Nat,iv = .int .i64 (i:Int)∧i≤n∧Hid (GetI R p 2 190 99 r c s w k1 e1 i k ov wr)) (fun _ iv _ => n - (intOf iv).toNat)
 case atStart => exact ⟨0,k1,rfl,Nat.zero_le _,HI0⟩
 obtain ⟨i,k,rfl,hin,HI⟩:=hrel
 clear HI0
 by_cases hlt:i < n
 ·have hlt':(i:Int) < (n:Int):=by omega
  have he1:e1 = 0:=by
   rcases Int.decEq e1 0 with q | q
   ·have:=HN.out q; omega
   exact q
  subst he1
  obtain ⟨L,l,hown,hL,hl,hr,hg,hres,hcc,hel⟩:=HI.out
  have HX:=qH (HCC.out HS.out.szPos.1 wr k hr hres.1 (Nat.lt_of_lt_of_le HS.out.szPos.2 hres.le) hcc hg.size)
  have HE:=qH hel
  have HOW:=qH hown
  have HG:=qH hg
  have HRS:=qH hres
  have HCX:=qH hcc
  clear HI hel hr hcc hg hres hown
  go_wp2_with fail
  refine HX.out.mono ?_
  rintro e w2 ⟨vs,x,k2,e2,rfl,hvl,hv1,hRx,hr2,hg2,hres2⟩
  obtain ⟨v0,v1,rfl⟩:=len_2 hvl
  have h1:(#[v0,v1]:Array Value).all (·.oneCell') = true:=by
   rw [Array.all_eq_true']
   intro u hu
   exact hv1 u (by simpa using hu)
  obtain ⟨c0,c1,c2,f1,f2⟩:=(hr2.alloc (.cells #[v0,v1] 190)).cells
  have HR2:=qH hr2
  have HG2:=qH hg2
  have HS2:=qH hres2
  have HXX:=qH hRx
  obtain ⟨y,hy⟩:∃ y:Cel 2,y = ⟨[v0,v1],hvl,hv1⟩:=⟨_,rfl⟩
  have HY:Hid (y.val = [v0,v1]):=qH (by rw [hy]; rfl)
  have HO2:Hid (Own Cel.val 2 190 w2 w.heap.size _ L):=qH (HOW.out.kept hg2 (.inr (fun q => by have:=(HOW.out.base_le q).1; omega)))
  have HC2:=qH (aK hg2 HCX.out hcr)
  have hlen:(L.length + 1) * 16≤140737488355328:=by omega
  rw [<- HY.out] at HXX
  clear HX hr2 hg2 hres2 hRx hv1 hy
  rcases Int.decEq e2 0 with he | he
  ·have d0:(e2 != 0) = true:=by simpa using he
   have HEE:=qH he
   clear he
   go_wp2_with (refine wpList_store_row rfl 190 _ _ rfl w2.heap.size #[v0,v1] rfl rfl 190 _ (heap_alloc_new _ _) size190 rfl h1 ?_; rw [aC])
   go_ret
   exact ⟨_,[],k2,e2,rfl,Slv.nil _ _,HR2.out.alloc _,ap (an HG.out HG2.out) _,HS.out.list ((HRS.out.snoc HS2.out).manyErr HEE.out (by omega))⟩
  subst he
  go_wp2_with (first
   | (refine wpList_store_row rfl 190 _ _ rfl w2.heap.size #[v0,v1] rfl rfl 190 _ (heap_alloc_new _ _) size190 rfl h1 ?_; rw [aC])
   | (at_builtin; refine aP _ rfl _ _ 35 rfl w.heap.size 190 i0 z0 2 16 Tryz.underlying35 hi hz0 hz1 hz2 hz3 (by decide) (fun x => x.2.1) (fun x => x.2.2) _ L rfl ((HO2.out.alloc _).alloc _) (w2.heap.size + 1) 1 y rfl ?c0 ?c1 ?c2 ?c3 ?_))
  case c0 => exact fun j u hu => (aa (ah _ _ (by simp)) j).trans (by rw [HY.out] at hu; simpa using hu)
  case c1 => omega
  case c2 => omega
  case c3 => have:=Nat.le_trans HG.out.size HG2.out.size; simp; omega
  intro v' w' hown' hgo hat
  have HI2:Hid (GetI R p 2 190 99 r c s w k1 0 (i + 1) k2 v' w'):=qH (GetI.push HRR.out hrw hcw HOW.out hL hl HG.out HRS.out HE.out HG2.out HR2.out HC2.out HS2.out HXX.out (((Below.refl w2.heap.size w2).alloc (Nat.le_refl _) _).alloc (by simp) _) hown' hgo (by simpa using hat))
  clear hown' hgo hat HOW HE HO2 HG2 HR2 HC2 HS2 HXX HRS HG
  go_wp2_with fail
  go_roundw
  case rel => exact ⟨i + 1,k2,by go_num,by omega,HI2⟩
  simp [intOf]; omega
 have hlt':¬ (i:Int) < (n:Int):=by omega
 have hii:i = n:=by omega
 subst hii
 obtain ⟨l,hsl,hr,hg,hres⟩:=HI.out.slv HRR.out
 have HSL:=qH hsl
 have HR2:=qH hr
 have HG2:=qH hg
 have HS2:=qH hres
 clear hsl hr hg hres HI
 go_wp2_with fail
 go_ret
 exact ⟨_,l,k,e1,rfl,HSL.out,HR2.out,HG2.out,HS.out.list HS2.out⟩
theorem info201x:(Tryz.prog.info? 201).map (fun i => (i.zero.map (·.cells.size),i.size,i.bytes)) = some (some 4,4,32):=by kernel_rfl
theorem get169 {α:Type} (R:Rp α) (p:Rd α) (hR:Stb R) (r c k0:Nat) (s:ByteArray) (e0:Int) (w:World) (h:Rdr 99 r s k0 e0 w) (hk0:k0≤s.size) (hs:s.size≤549755813888) (hc:w.cell? ⟨c,0,none⟩ = some (.pointer (some ⟨r,0,none⟩))) (hcr:c≠r)
  (HC:e0 = 0→ClosC R p 4 170 99 r c s k0 w.heap.size) :
  Calls Tryz.prog 169 #[.pointer (some ⟨r,0,none⟩),.func (.func 170) #[] #[.pointer (some ⟨c,0,none⟩)]] w (bq R p 4 99 r s k0 e0 w):=by
 have hcw:=World.block_lt_of_cell? _ _ hc
 have hrw:=ae h
 have C:=qH (size195 r k0 s e0 w h hk0 (by omega))
 have HCC:=qH HC
 have HRR:=qH hR
 obtain ⟨i0,z0,hi,hz0,hz1,hz2,hz3⟩:=bk info201x
 clear h HC hR
 go_enter Tryz.func169,Tryz.ntmps169
 go_wp2_with fail
 refine C.out.mono ?_
 rintro e w1 ⟨n,k1,e1,rfl,hkn,hn0,hr,hg,hsz⟩
 have HI0:Hid (GetI R p 4 201 99 r c s w k1 e1 0 k1 (.slice none 0 0) w1):=qH (GetI.start R p 4 201 99 hsz.1 hr hg (aK hg hc hcr))
 have HS:=qH hsz
 have HN:=qH hn0
 clear C hr hg hsz hc hn0
 go_wp2_with fail
 go_loopw [5,9] (fun ov iv wr => ∃ i k:Nat,iv = .int .i64 (i:Int)∧i≤n∧Hid (GetI R p 4 201 99 r c s w k1 e1 i k ov wr)) (fun _ iv _ => n - (intOf iv).toNat)
 case atStart => exact ⟨0,k1,rfl,Nat.zero_le _,HI0⟩
 obtain ⟨i,k,rfl,hin,HI⟩:=hrel
 clear HI0
 by_cases hlt:i < n
 ·have hlt':(i:Int) < (n:Int):=by omega
  have he1:e1 = 0:=by
   rcases Int.decEq e1 0 with q | q
   ·have:=HN.out q; omega
   exact q
  subst he1
  obtain ⟨L,l,hown,hL,hl,hr,hg,hres,hcc,hel⟩:=HI.out
  have HX:=qH (HCC.out HS.out.szPos.1 wr k hr hres.1 (Nat.lt_of_lt_of_le HS.out.szPos.2 hres.le) hcc hg.size)
  have HE:=qH hel
  have HOW:=qH hown
  have HG:=qH hg
  have HRS:=qH hres
  have HCX:=qH hcc
  clear HI hel hr hcc hg hres hown
  go_wp2_with fail
  refine HX.out.mono ?_
  rintro e w2 ⟨vs,x,k2,e2,rfl,hvl,hv1,hRx,hr2,hg2,hres2⟩
  obtain ⟨v0,v1,v2,v3,rfl⟩:=len_4 hvl
  have h1:(#[v0,v1,v2,v3]:Array Value).all (·.oneCell') = true:=by
   rw [Array.all_eq_true']
   intro u hu
   exact hv1 u (by simpa using hu)
  obtain ⟨c0,c1,c2,f1,f2⟩:=(hr2.alloc (.cells #[v0,v1,v2,v3] 201)).cells
  have HR2:=qH hr2
  have HG2:=qH hg2
  have HS2:=qH hres2
  have HXX:=qH hRx
  obtain ⟨y,hy⟩:∃ y:Cel 4,y = ⟨[v0,v1,v2,v3],hvl,hv1⟩:=⟨_,rfl⟩
  have HY:Hid (y.val = [v0,v1,v2,v3]):=qH (by rw [hy]; rfl)
  have HO2:Hid (Own Cel.val 4 201 w2 w.heap.size _ L):=qH (HOW.out.kept hg2 (.inr (fun q => by have:=(HOW.out.base_le q).1; omega)))
  have HC2:=qH (aK hg2 HCX.out hcr)
  have hlen:(L.length + 1) * 32≤140737488355328:=by omega
  rw [<- HY.out] at HXX
  clear HX hr2 hg2 hres2 hRx hv1 hy
  rcases Int.decEq e2 0 with he | he
  ·have d0:(e2 != 0) = true:=by simpa using he
   have HEE:=qH he
   clear he
   go_wp2_with (refine wpList_store_row rfl 201 _ _ rfl w2.heap.size #[v0,v1,v2,v3] rfl rfl 201 _ (heap_alloc_new _ _) size201 rfl h1 ?_; rw [aC])
   go_ret
   exact ⟨_,[],k2,e2,rfl,Slv.nil _ _,HR2.out.alloc _,ap (an HG.out HG2.out) _,HS.out.list ((HRS.out.snoc HS2.out).manyErr HEE.out (by omega))⟩
  subst he
  go_wp2_with (first
   | (refine wpList_store_row rfl 201 _ _ rfl w2.heap.size #[v0,v1,v2,v3] rfl rfl 201 _ (heap_alloc_new _ _) size201 rfl h1 ?_; rw [aC])
   | (at_builtin; refine aP _ rfl _ _ 36 rfl w.heap.size 201 i0 z0 4 32 Tryz.underlying36 hi hz0 hz1 hz2 hz3 (by decide) (fun x => x.2.1) (fun x => x.2.2) _ L rfl ((HO2.out.alloc _).alloc _) (w2.heap.size + 1) 1 y rfl ?c0 ?c1 ?c2 ?c3 ?_))
  case c0 => exact fun j u hu => (aa (ah _ _ (by simp)) j).trans (by rw [HY.out] at hu; simpa using hu)
  case c1 => omega
  case c2 => omega
  case c3 => have:=Nat.le_trans HG.out.size HG2.out.size; simp; omega
  intro v' w' hown' hgo hat
  have HI2:Hid (GetI R p 4 201 99 r c s w k1 0 (i + 1) k2 v' w'):=qH (GetI.push HRR.out hrw hcw HOW.out hL hl HG.out HRS.out HE.out HG2.out HR2.out HC2.out HS2.out HXX.out (((Below.refl w2.heap.size w2).alloc (Nat.le_refl _) _).alloc (by simp) _) hown' hgo (by simpa using hat))
  clear hown' hgo hat HOW HE HO2 HG2 HR2 HC2 HS2 HXX HRS HG
  go_wp2_with fail
  go_roundw
  case rel => exact ⟨i + 1,k2,by go_num,by omega,HI2⟩
  simp [intOf]; omega
 have hlt':¬ (i:Int) < (n:Int):=by omega
 have hii:i = n:=by omega
 subst hii
 obtain ⟨l,hsl,hr,hg,hres⟩:=HI.out.slv HRR.out
 have HSL:=qH hsl
 have HR2:=qH hr
 have HG2:=qH hg
 have HS2:=qH hres
 clear hsl hr hg hres HI
 go_wp2_with fail
 go_ret
 exact ⟨_,l,k,e1,rfl,HSL.out,HR2.out,HG2.out,HS.out.list HS2.out⟩
theorem info112x:(Tryz.prog.info? 112).map (fun i => (i.zero.map (·.cells.size),i.size,i.bytes)) = some (some 4,4,40):=by kernel_rfl
theorem get160 {α:Type} (R:Rp α) (p:Rd α) (hR:Stb R) (r c k0:Nat) (s:ByteArray) (e0:Int) (w:World) (h:Rdr 99 r s k0 e0 w) (hk0:k0≤s.size) (hs:s.size≤549755813888) (hc:w.cell? ⟨c,0,none⟩ = some (.pointer (some ⟨r,0,none⟩))) (hcr:c≠r)
  (HC:e0 = 0→ClosC R p 4 161 99 r c s k0 w.heap.size) :
  Calls Tryz.prog 160 #[.pointer (some ⟨r,0,none⟩),.func (.func 161) #[] #[.pointer (some ⟨c,0,none⟩)]] w (bq R p 4 99 r s k0 e0 w):=by
 have hcw:=World.block_lt_of_cell? _ _ hc
 have hrw:=ae h
 have C:=qH (size195 r k0 s e0 w h hk0 (by omega))
 have HCC:=qH HC
 have HRR:=qH hR
 obtain ⟨i0,z0,hi,hz0,hz1,hz2,hz3⟩:=bk info112x
 clear h HC hR
 go_enter Tryz.func160,Tryz.ntmps160
 go_wp2_with fail
 refine C.out.mono ?_
 rintro e w1 ⟨n,k1,e1,rfl,hkn,hn0,hr,hg,hsz⟩
 have HI0:Hid (GetI R p 4 112 99 r c s w k1 e1 0 k1 (.slice none 0 0) w1):=qH (GetI.start R p 4 112 99 hsz.1 hr hg (aK hg hc hcr))
 have HS:=qH hsz
 have HN:=qH hn0
 clear C hr hg hsz hc hn0
 go_wp2_with fail
 go_loopw [5,9] (fun ov iv wr => ∃ i k:Nat,iv = .int .i64 (i:Int)∧i≤n∧Hid (GetI R p 4 112 99 r c s w k1 e1 i k ov wr)) (fun _ iv _ => n - (intOf iv).toNat)
 case atStart => exact ⟨0,k1,rfl,Nat.zero_le _,HI0⟩
 obtain ⟨i,k,rfl,hin,HI⟩:=hrel
 clear HI0
 by_cases hlt:i < n
 ·have hlt':(i:Int) < (n:Int):=by omega
  have he1:e1 = 0:=by
   rcases Int.decEq e1 0 with q | q
   ·have:=HN.out q; omega
   exact q
  subst he1
  obtain ⟨L,l,hown,hL,hl,hr,hg,hres,hcc,hel⟩:=HI.out
  have HX:=qH (HCC.out HS.out.szPos.1 wr k hr hres.1 (Nat.lt_of_lt_of_le HS.out.szPos.2 hres.le) hcc hg.size)
  have HE:=qH hel
  have HOW:=qH hown
  have HG:=qH hg
  have HRS:=qH hres
  have HCX:=qH hcc
  clear HI hel hr hcc hg hres hown
  go_wp2_with fail
  refine HX.out.mono ?_
  rintro e w2 ⟨vs,x,k2,e2,rfl,hvl,hv1,hRx,hr2,hg2,hres2⟩
  obtain ⟨v0,v1,v2,v3,rfl⟩:=len_4 hvl
  have h1:(#[v0,v1,v2,v3]:Array Value).all (·.oneCell') = true:=by
   rw [Array.all_eq_true']
   intro u hu
   exact hv1 u (by simpa using hu)
  obtain ⟨c0,c1,c2,f1,f2⟩:=(hr2.alloc (.cells #[v0,v1,v2,v3] 112)).cells
  have HR2:=qH hr2
  have HG2:=qH hg2
  have HS2:=qH hres2
  have HXX:=qH hRx
  obtain ⟨y,hy⟩:∃ y:Cel 4,y = ⟨[v0,v1,v2,v3],hvl,hv1⟩:=⟨_,rfl⟩
  have HY:Hid (y.val = [v0,v1,v2,v3]):=qH (by rw [hy]; rfl)
  have HO2:Hid (Own Cel.val 4 112 w2 w.heap.size _ L):=qH (HOW.out.kept hg2 (.inr (fun q => by have:=(HOW.out.base_le q).1; omega)))
  have HC2:=qH (aK hg2 HCX.out hcr)
  have hlen:(L.length + 1) * 40≤140737488355328:=by omega
  rw [<- HY.out] at HXX
  clear HX hr2 hg2 hres2 hRx hv1 hy
  rcases Int.decEq e2 0 with he | he
  ·have d0:(e2 != 0) = true:=by simpa using he
   have HEE:=qH he
   clear he
   go_wp2_with (refine wpList_store_row rfl 112 _ _ rfl w2.heap.size #[v0,v1,v2,v3] rfl rfl 112 _ (heap_alloc_new _ _) size112 rfl h1 ?_; rw [aC])
   go_ret
   exact ⟨_,[],k2,e2,rfl,Slv.nil _ _,HR2.out.alloc _,ap (an HG.out HG2.out) _,HS.out.list ((HRS.out.snoc HS2.out).manyErr HEE.out (by omega))⟩
  subst he
  go_wp2_with (first
   | (refine wpList_store_row rfl 112 _ _ rfl w2.heap.size #[v0,v1,v2,v3] rfl rfl 112 _ (heap_alloc_new _ _) size112 rfl h1 ?_; rw [aC])
   | (at_builtin; refine aP _ rfl _ _ 108 rfl w.heap.size 112 i0 z0 4 40 Tryz.underlying108 hi hz0 hz1 hz2 hz3 (by decide) (fun x => x.2.1) (fun x => x.2.2) _ L rfl ((HO2.out.alloc _).alloc _) (w2.heap.size + 1) 1 y rfl ?c0 ?c1 ?c2 ?c3 ?_))
  case c0 => exact fun j u hu => (aa (ah _ _ (by simp)) j).trans (by rw [HY.out] at hu; simpa using hu)
  case c1 => omega
  case c2 => omega
  case c3 => have:=Nat.le_trans HG.out.size HG2.out.size; simp; omega
  intro v' w' hown' hgo hat
  have HI2:Hid (GetI R p 4 112 99 r c s w k1 0 (i + 1) k2 v' w'):=qH (GetI.push HRR.out hrw hcw HOW.out hL hl HG.out HRS.out HE.out HG2.out HR2.out HC2.out HS2.out HXX.out (((Below.refl w2.heap.size w2).alloc (Nat.le_refl _) _).alloc (by simp) _) hown' hgo (by simpa using hat))
  clear hown' hgo hat HOW HE HO2 HG2 HR2 HC2 HS2 HXX HRS HG
  go_wp2_with fail
  go_roundw
  case rel => exact ⟨i + 1,k2,by go_num,by omega,HI2⟩
  simp [intOf]; omega
 have hlt':¬ (i:Int) < (n:Int):=by omega
 have hii:i = n:=by omega
 subst hii
 obtain ⟨l,hsl,hr,hg,hres⟩:=HI.out.slv HRR.out
 have HSL:=qH hsl
 have HR2:=qH hr
 have HG2:=qH hg
 have HS2:=qH hres
 clear hsl hr hg hres HI
 go_wp2_with fail
 go_ret
 exact ⟨_,l,k,e1,rfl,HSL.out,HR2.out,HG2.out,HS.out.list HS2.out⟩
theorem info107x:(Tryz.prog.info? 107).map (fun i => (i.zero.map (·.cells.size),i.size,i.bytes)) = some (some 6,6,72):=by kernel_rfl
theorem get155 {α:Type} (R:Rp α) (p:Rd α) (hR:Stb R) (r c k0:Nat) (s:ByteArray) (e0:Int) (w:World) (h:Rdr 99 r s k0 e0 w) (hk0:k0≤s.size) (hs:s.size≤549755813888) (hc:w.cell? ⟨c,0,none⟩ = some (.pointer (some ⟨r,0,none⟩))) (hcr:c≠r)
  (HC:e0 = 0→ClosC R p 6 156 99 r c s k0 w.heap.size) :
  Calls Tryz.prog 155 #[.pointer (some ⟨r,0,none⟩),.func (.func 156) #[] #[.pointer (some ⟨c,0,none⟩)]] w (bq R p 6 99 r s k0 e0 w):=by
 have hcw:=World.block_lt_of_cell? _ _ hc
 have hrw:=ae h
 have C:=qH (size195 r k0 s e0 w h hk0 (by omega))
 have HCC:=qH HC
 have HRR:=qH hR
 obtain ⟨i0,z0,hi,hz0,hz1,hz2,hz3⟩:=bk info107x
 clear h HC hR
 go_enter Tryz.func155,Tryz.ntmps155
 go_wp2_with fail
 refine C.out.mono ?_
 rintro e w1 ⟨n,k1,e1,rfl,hkn,hn0,hr,hg,hsz⟩
 have HI0:Hid (GetI R p 6 107 99 r c s w k1 e1 0 k1 (.slice none 0 0) w1):=qH (GetI.start R p 6 107 99 hsz.1 hr hg (aK hg hc hcr))
 have HS:=qH hsz
 have HN:=qH hn0
 clear C hr hg hsz hc hn0
 go_wp2_with fail
 go_loopw [5,9] (fun ov iv wr => ∃ i k:Nat,iv = .int .i64 (i:Int)∧i≤n∧Hid (GetI R p 6 107 99 r c s w k1 e1 i k ov wr)) (fun _ iv _ => n - (intOf iv).toNat)
 case atStart => exact ⟨0,k1,rfl,Nat.zero_le _,HI0⟩
 obtain ⟨i,k,rfl,hin,HI⟩:=hrel
 clear HI0
 by_cases hlt:i < n
 ·have hlt':(i:Int) < (n:Int):=by omega
  have he1:e1 = 0:=by
   rcases Int.decEq e1 0 with q | q
   ·have:=HN.out q; omega
   exact q
  subst he1
  obtain ⟨L,l,hown,hL,hl,hr,hg,hres,hcc,hel⟩:=HI.out
  have HX:=qH (HCC.out HS.out.szPos.1 wr k hr hres.1 (Nat.lt_of_lt_of_le HS.out.szPos.2 hres.le) hcc hg.size)
  have HE:=qH hel
  have HOW:=qH hown
  have HG:=qH hg
  have HRS:=qH hres
  have HCX:=qH hcc
  clear HI hel hr hcc hg hres hown
  go_wp2_with fail
  refine HX.out.mono ?_
  rintro e w2 ⟨vs,x,k2,e2,rfl,hvl,hv1,hRx,hr2,hg2,hres2⟩
  obtain ⟨v0,v1,v2,v3,v4,v5,rfl⟩:=len_6 hvl
  have h1:(#[v0,v1,v2,v3,v4,v5]:Array Value).all (·.oneCell') = true:=by
   rw [Array.all_eq_true']
   intro u hu
   exact hv1 u (by simpa using hu)
  obtain ⟨c0,c1,c2,f1,f2⟩:=(hr2.alloc (.cells #[v0,v1,v2,v3,v4,v5] 107)).cells
  have HR2:=qH hr2
  have HG2:=qH hg2
  have HS2:=qH hres2
  have HXX:=qH hRx
  obtain ⟨y,hy⟩:∃ y:Cel 6,y = ⟨[v0,v1,v2,v3,v4,v5],hvl,hv1⟩:=⟨_,rfl⟩
  have HY:Hid (y.val = [v0,v1,v2,v3,v4,v5]):=qH (by rw [hy]; rfl)
  have HO2:Hid (Own Cel.val 6 107 w2 w.heap.size _ L):=qH (HOW.out.kept hg2 (.inr (fun q => by have:=(HOW.out.base_le q).1; omega)))
  have HC2:=qH (aK hg2 HCX.out hcr)
  have hlen:(L.length + 1) * 72≤140737488355328:=by omega
  rw [<- HY.out] at HXX
  clear HX hr2 hg2 hres2 hRx hv1 hy
  rcases Int.decEq e2 0 with he | he
  ·have d0:(e2 != 0) = true:=by simpa using he
   have HEE:=qH he
   clear he
   go_wp2_with (refine wpList_store_row rfl 107 _ _ rfl w2.heap.size #[v0,v1,v2,v3,v4,v5] rfl rfl 107 _ (heap_alloc_new _ _) size107 rfl h1 ?_; rw [aC])
   go_ret
   exact ⟨_,[],k2,e2,rfl,Slv.nil _ _,HR2.out.alloc _,ap (an HG.out HG2.out) _,HS.out.list ((HRS.out.snoc HS2.out).manyErr HEE.out (by omega))⟩
  subst he
  go_wp2_with (first
   | (refine wpList_store_row rfl 107 _ _ rfl w2.heap.size #[v0,v1,v2,v3,v4,v5] rfl rfl 107 _ (heap_alloc_new _ _) size107 rfl h1 ?_; rw [aC])
   | (at_builtin; refine aP _ rfl _ _ 42 rfl w.heap.size 107 i0 z0 6 72 Tryz.underlying42 hi hz0 hz1 hz2 hz3 (by decide) (fun x => x.2.1) (fun x => x.2.2) _ L rfl ((HO2.out.alloc _).alloc _) (w2.heap.size + 1) 1 y rfl ?c0 ?c1 ?c2 ?c3 ?_))
  case c0 => exact fun j u hu => (aa (ah _ _ (by simp)) j).trans (by rw [HY.out] at hu; simpa using hu)
  case c1 => omega
  case c2 => omega
  case c3 => have:=Nat.le_trans HG.out.size HG2.out.size; simp; omega
  intro v' w' hown' hgo hat
  have HI2:Hid (GetI R p 6 107 99 r c s w k1 0 (i + 1) k2 v' w'):=qH (GetI.push HRR.out hrw hcw HOW.out hL hl HG.out HRS.out HE.out HG2.out HR2.out HC2.out HS2.out HXX.out (((Below.refl w2.heap.size w2).alloc (Nat.le_refl _) _).alloc (by simp) _) hown' hgo (by simpa using hat))
  clear hown' hgo hat HOW HE HO2 HG2 HR2 HC2 HS2 HXX HRS HG
  go_wp2_with fail
  go_roundw
  case rel => exact ⟨i + 1,k2,by go_num,by omega,HI2⟩
  simp [intOf]; omega
 have hlt':¬ (i:Int) < (n:Int):=by omega
 have hii:i = n:=by omega
 subst hii
 obtain ⟨l,hsl,hr,hg,hres⟩:=HI.out.slv HRR.out
 have HSL:=qH hsl
 have HR2:=qH hr
 have HG2:=qH hg
 have HS2:=qH hres
 clear hsl hr hg hres HI
 go_wp2_with fail
 go_ret
 exact ⟨_,l,k,e1,rfl,HSL.out,HR2.out,HG2.out,HS.out.list HS2.out⟩
theorem info110x:(Tryz.prog.info? 110).map (fun i => (i.zero.map (·.cells.size),i.size,i.bytes)) = some (some 2,2,32):=by kernel_rfl
theorem get158 {α:Type} (R:Rp α) (p:Rd α) (hR:Stb R) (r c k0:Nat) (s:ByteArray) (e0:Int) (w:World) (h:Rdr 99 r s k0 e0 w) (hk0:k0≤s.size) (hs:s.size≤549755813888) (hc:w.cell? ⟨c,0,none⟩ = some (.pointer (some ⟨r,0,none⟩))) (hcr:c≠r)
  (HC:e0 = 0→ClosC R p 2 159 99 r c s k0 w.heap.size) :
  Calls Tryz.prog 158 #[.pointer (some ⟨r,0,none⟩),.func (.func 159) #[] #[.pointer (some ⟨c,0,none⟩)]] w (bq R p 2 99 r s k0 e0 w):=by
 have hcw:=World.block_lt_of_cell? _ _ hc
 have hrw:=ae h
 have C:=qH (size195 r k0 s e0 w h hk0 (by omega))
 have HCC:=qH HC
 have HRR:=qH hR
 obtain ⟨i0,z0,hi,hz0,hz1,hz2,hz3⟩:=bk info110x
 clear h HC hR
 go_enter Tryz.func158,Tryz.ntmps158
 go_wp2_with fail
 refine C.out.mono ?_
 rintro e w1 ⟨n,k1,e1,rfl,hkn,hn0,hr,hg,hsz⟩
 have HI0:Hid (GetI R p 2 110 99 r c s w k1 e1 0 k1 (.slice none 0 0) w1):=qH (GetI.start R p 2 110 99 hsz.1 hr hg (aK hg hc hcr))
 have HS:=qH hsz
 have HN:=qH hn0
 clear C hr hg hsz hc hn0
 go_wp2_with fail
 go_loopw [5,9] (fun ov iv wr => ∃ i k:Nat,iv = .int .i64 (i:Int)∧i≤n∧Hid (GetI R p 2 110 99 r c s w k1 e1 i k ov wr)) (fun _ iv _ => n - (intOf iv).toNat)
 case atStart => exact ⟨0,k1,rfl,Nat.zero_le _,HI0⟩
 obtain ⟨i,k,rfl,hin,HI⟩:=hrel
 clear HI0
 by_cases hlt:i < n
 ·have hlt':(i:Int) < (n:Int):=by omega
  have he1:e1 = 0:=by
   rcases Int.decEq e1 0 with q | q
   ·have:=HN.out q; omega
   exact q
  subst he1
  obtain ⟨L,l,hown,hL,hl,hr,hg,hres,hcc,hel⟩:=HI.out
  have HX:=qH (HCC.out HS.out.szPos.1 wr k hr hres.1 (Nat.lt_of_lt_of_le HS.out.szPos.2 hres.le) hcc hg.size)
  have HE:=qH hel
  have HOW:=qH hown
  have HG:=qH hg
  have HRS:=qH hres
  have HCX:=qH hcc
  clear HI hel hr hcc hg hres hown
  go_wp2_with fail
  refine HX.out.mono ?_
  rintro e w2 ⟨vs,x,k2,e2,rfl,hvl,hv1,hRx,hr2,hg2,hres2⟩
  obtain ⟨v0,v1,rfl⟩:=len_2 hvl
  have h1:(#[v0,v1]:Array Value).all (·.oneCell') = true:=by
   rw [Array.all_eq_true']
   intro u hu
   exact hv1 u (by simpa using hu)
  obtain ⟨c0,c1,c2,f1,f2⟩:=(hr2.alloc (.cells #[v0,v1] 110)).cells
  have HR2:=qH hr2
  have HG2:=qH hg2
  have HS2:=qH hres2
  have HXX:=qH hRx
  obtain ⟨y,hy⟩:∃ y:Cel 2,y = ⟨[v0,v1],hvl,hv1⟩:=⟨_,rfl⟩
  have HY:Hid (y.val = [v0,v1]):=qH (by rw [hy]; rfl)
  have HO2:Hid (Own Cel.val 2 110 w2 w.heap.size _ L):=qH (HOW.out.kept hg2 (.inr (fun q => by have:=(HOW.out.base_le q).1; omega)))
  have HC2:=qH (aK hg2 HCX.out hcr)
  have hlen:(L.length + 1) * 32≤140737488355328:=by omega
  rw [<- HY.out] at HXX
  clear HX hr2 hg2 hres2 hRx hv1 hy
  rcases Int.decEq e2 0 with he | he
  ·have d0:(e2 != 0) = true:=by simpa using he
   have HEE:=qH he
   clear he
   go_wp2_with (refine wpList_store_row rfl 110 _ _ rfl w2.heap.size #[v0,v1] rfl rfl 110 _ (heap_alloc_new _ _) size110 rfl h1 ?_; rw [aC])
   go_ret
   exact ⟨_,[],k2,e2,rfl,Slv.nil _ _,HR2.out.alloc _,ap (an HG.out HG2.out) _,HS.out.list ((HRS.out.snoc HS2.out).manyErr HEE.out (by omega))⟩
  subst he
  go_wp2_with (first
   | (refine wpList_store_row rfl 110 _ _ rfl w2.heap.size #[v0,v1] rfl rfl 110 _ (heap_alloc_new _ _) size110 rfl h1 ?_; rw [aC])
   | (at_builtin; refine aP _ rfl _ _ 43 rfl w.heap.size 110 i0 z0 2 32 Tryz.underlying43 hi hz0 hz1 hz2 hz3 (by decide) (fun x => x.2.1) (fun x => x.2.2) _ L rfl ((HO2.out.alloc _).alloc _) (w2.heap.size + 1) 1 y rfl ?c0 ?c1 ?c2 ?c3 ?_))
  case c0 => exact fun j u hu => (aa (ah _ _ (by simp)) j).trans (by rw [HY.out] at hu; simpa using hu)
  case c1 => omega
  case c2 => omega
  case c3 => have:=Nat.le_trans HG.out.size HG2.out.size; simp; omega
  intro v' w' hown' hgo hat
  have HI2:Hid (GetI R p 2 110 99 r c s w k1 0 (i + 1) k2 v' w'):=qH (GetI.push HRR.out hrw hcw HOW.out hL hl HG.out HRS.out HE.out HG2.out HR2.out HC2.out HS2.out HXX.out (((Below.refl w2.heap.size w2).alloc (Nat.le_refl _) _).alloc (by simp) _) hown' hgo (by simpa using hat))
  clear hown' hgo hat HOW HE HO2 HG2 HR2 HC2 HS2 HXX HRS HG
  go_wp2_with fail
  go_roundw
  case rel => exact ⟨i + 1,k2,by go_num,by omega,HI2⟩
  simp [intOf]; omega
 have hlt':¬ (i:Int) < (n:Int):=by omega
 have hii:i = n:=by omega
 subst hii
 obtain ⟨l,hsl,hr,hg,hres⟩:=HI.out.slv HRR.out
 have HSL:=qH hsl
 have HR2:=qH hr
 have HG2:=qH hg
 have HS2:=qH hres
 clear hsl hr hg hres HI
 go_wp2_with fail
 go_ret
 exact ⟨_,l,k,e1,rfl,HSL.out,HR2.out,HG2.out,HS.out.list HS2.out⟩
end Go.Proofs.YtmhhcfceikcfbaaGreat
