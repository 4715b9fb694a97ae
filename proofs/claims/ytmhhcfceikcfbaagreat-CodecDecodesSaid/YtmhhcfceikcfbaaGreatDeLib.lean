/- Words for memory, shared by all walks: a slice that reads as a list of elements, a slice of the call's own, endings. -/
import Derived.WalkKit
import Derived.WalkSpells
import Derived.WalkLawsBesides
import Derived.Lib.Hide
import Derived.Deep.Draws
import Derived.Laws.OwnMore
namespace Go.Proofs.YtmhhcfceikcfbaaGreat
open Go.RowKit
set_option maxRecDepth 100000
set_option maxHeartbeats 4000000
theorem qH {p : Prop} (h : p) : Hid p := _root_.Go.Lib.hid h
theorem gX {α : Sort _} (a : α) : ∃ x, x = a := ⟨a, rfl⟩
theorem ret_bool {a b:Bool} (h:a = b):Ending.returned (.bool a) = .returned (.bool b):=by rw [h]
theorem addr_add (b o n:Nat):(⟨b,o,none⟩:Addr).add n = ⟨b,o + n,none⟩:=by unfold Addr.add; split <;> simp_all
def Sl {α:Type} (enc:α→List Value) (sz:Nat) (w:World) (B:Nat) (v:Value) (l:List α):Prop :=
 ∃ A c,v = .slice A l.length c∧l.length≤c∧c≤maxLen∧(0 < l.length→∃ b o,A = some ⟨b,o,none⟩∧b < B ∧
  ∀ i x,l[i]? = some x→∀ j u,(enc x)[j]? = some u→w.cell? ⟨b,o + i * sz + j,none⟩ = some u)
def Own {α:Type} (enc:α→List Value) (sz:Nat) (E:TypeId) (w:World) (base:Nat) (v:Value) (l:List α):Prop :=
 w.ownsRow base E sz v l.length (l.flatMap enc)
section
variable {α:Type} {enc:α→List Value} {sz:Nat} {w w':World} {B B':Nat} {v:Value} {l:List α} {E:TypeId} {base:Nat}
theorem Sl.keep (h:Sl enc sz w B v l) (hk:∀ p:Addr,p.block < B→w'.cell? p = w.cell? p):Sl enc sz w' B v l:=by
 obtain ⟨A,c,rfl,h1,h2,h3⟩:=h
 refine ⟨A,c,rfl,h1,h2,fun hn => ?_⟩
 obtain ⟨b,o,rfl,hb,hc⟩:=h3 hn
 exact ⟨b,o,rfl,hb,fun i x hx j u hu => (hk _ hb).trans (hc i x hx j u hu)⟩
theorem Sl.more (h:Sl enc sz w B v l) (hB:B≤B'):Sl enc sz w B' v l:=by
 obtain ⟨A,c,rfl,h1,h2,h3⟩:=h
 refine ⟨A,c,rfl,h1,h2,fun hn => ?_⟩
 obtain ⟨b,o,rfl,hb,hc⟩:=h3 hn
 exact ⟨b,o,rfl,by omega,hc⟩
theorem Sl.below (h:Sl enc sz w B v l) (hb:Below B w w'):Sl enc sz w' B v l:=h.keep fun _ hp => hb.cell hp
theorem Sl.over (h:Sl enc sz w w.heap.size v l) (hb:Below w.heap.size w w'):Sl enc sz w' w'.heap.size v l:=(h.below hb).more hb.size
theorem Sl.nil (w:World) (B:Nat):Sl enc sz w B (.slice none 0 0) ([]:List α):=⟨none,0,rfl,by simp,by simp [maxLen],fun h => by simp at h⟩
theorem Sl.take (h:Sl enc sz w B v l) (n:Nat):∀ A m c,v = .slice A m c→Sl enc sz w B (.slice A (min m n) c) (l.take n):=by
 obtain ⟨A,c,rfl,h1,h2,h3⟩:=h
 rintro A' m' c' e
 injection e with e1 e2 e3
 subst e1 e2 e3
 refine ⟨A,c,by rw [List.length_take,Nat.min_comm],by rw [List.length_take]; omega,h2,fun hn => ?_⟩
 rw [List.length_take] at hn
 obtain ⟨b,o,rfl,hb,hc⟩:=h3 (by omega)
 refine ⟨b,o,rfl,hb,fun i x hx j u hu => hc i x ?_ j u hu⟩
 rw [List.getElem?_take] at hx
 split at hx
 ·exact hx
 cases hx
theorem flatMap_get (he:∀ x,(enc x).length = sz):∀ (l:List α) (i:Nat) (x:α),l[i]? = some x→∀ j u,(enc x)[j]? = some u→(l.flatMap enc)[i * sz + j]? = some u
 | [],i,x,h,_,_,_ => by simp at h
 | y::r,0,x,h,j,u,hu => by
  simp only [List.getElem?_cons_zero,Option.some.injEq] at h
  subst h
  rw [List.flatMap_cons,Nat.zero_mul,Nat.zero_add,List.getElem?_append_left]
  ·exact hu
  ·exact (List.getElem?_eq_some_iff.1 hu).1
 | y::r,i + 1,x,h,j,u,hu => by
  rw [List.getElem?_cons_succ] at h
  rw [List.flatMap_cons,List.getElem?_append_right (by rw [he,Nat.succ_mul]; omega),he]
  have:=flatMap_get he r i x h j u hu
  rw [<- this]
  congr 1
  rw [Nat.succ_mul]; omega
theorem flatMap_length (he:∀ x,(enc x).length = sz) (l:List α):(l.flatMap enc).length = l.length * sz:=by
 induction l with
 | nil => simp
 | cons y r ih => rw [List.flatMap_cons,List.length_append,he,ih,List.length_cons,Nat.succ_mul]; omega
theorem Own.sl (h:Own enc sz E w base v l) (he:∀ x,(enc x).length = sz):Sl enc sz w w.heap.size v l:=by
 unfold Own at h
 rcases h.2 with ⟨rfl,hn⟩ | ⟨g,cap,cur,rfl,hb,hh,hc1,hc2,hc3,hc4⟩
 ·have:l = []:=List.eq_nil_of_length_eq_zero hn
  subst this
  exact Sl.nil _ _
 refine ⟨_,_,rfl,hc1,hc2,fun hn => ⟨g,0,rfl,(Array.getElem?_eq_some_iff.1 hh).1,fun i x hx j u hu => ?_⟩⟩
 have:=h.cells (g:=g) rfl (i * sz + j) u (flatMap_get he l i x hx j u hu)
 rw [addr_add] at this
 rw [<- this]
 congr 2
 omega
theorem Own.nil (w:World) (base:Nat):Own enc sz E w base (.slice none 0 0) ([]:List α):=by
 have:=World.ownsRow_nil w base E sz
 exact this
theorem Own.kept {row:Option Nat} (h:Own enc sz E w base v l) (hg:w.grownBy w' row) (hne:v.ownBlock = none∨v.ownBlock≠row):Own enc sz E w' base v l :=
 World.ownsRow.kept h hg hne
theorem Own.alloc (h:Own enc sz E w base v l) (o:Obj):Own enc sz E (w.alloc o) base v l:=World.ownsRow.alloc h o
theorem Own.drew (h:Own enc sz E w base v l):Own enc sz E w.drew base v l:=h
theorem Own.drewN (h:Own enc sz E w base v l) (n:Nat):Own enc sz E (w.drewN n) base v l:=h
theorem Own.lower (h:Own enc sz E w base v l) {base':Nat} (hb:base'≤base):Own enc sz E w base' v l:=by
 refine ⟨h.1,?_⟩
 rcases h.2 with hn | ⟨g,cap,cur,hv,hg,r⟩
 ·exact .inl hn
 exact .inr ⟨g,cap,cur,hv,by omega,r⟩
theorem Own.over (h:Own enc sz E w base v l) (hb:Below w.heap.size w w'):Own enc sz E w' base v l :=
 h.kept (row:=none) ⟨hb.os,hb.tape,hb.output,hb.size,fun k hk _ => hb.block k hk⟩ (by cases hv:v.ownBlock <;> simp)
theorem Own.shape (h:Own enc sz E w base v l):∃ A c,v = .slice A l.length c∧l.length≤c∧c≤maxLen:=by
 unfold Own at h
 rcases h.2 with ⟨rfl,hn⟩ | ⟨g,cap,cur,rfl,hb,hh,hc1,hc2,hc3,hc4⟩
 ·exact ⟨none,0,by rw [hn],by omega,by simp [maxLen]⟩
 exact ⟨_,_,rfl,hc1,hc2⟩
end
theorem cells_new (w:World) (cs:List Value) (E:TypeId):∀ j u,cs[j]? = some u→(w.alloc (.cells cs.toArray E)).cell? ⟨w.heap.size,j,none⟩ = some u:=by
 intro j u hj
 rw [World.cell?_alloc_new]
 simpa using hj
theorem aq {B:Nat} {a w:World} (h:Below B a w) (n:Nat):Below B a (w.drewN n):=⟨h.os,h.tape,h.output,h.size,h.block⟩
theorem aa {w:World} {g:Nat} {t:TypeId} {cs:Array Value} (h:w.heap[g]? = some (.cells cs t (0,0))) (i:Nat):w.cell? ⟨g,i,none⟩ = cs[i]?:=cell_of_row w g i cs t (0,0) h
theorem blk_free {w:World} {g:Nat} {t:TypeId} {cs:Array Value} (h:w.heap[g]? = some (.cells cs t (0,0))) (i:Nat):w.frozen? ⟨g,i,none⟩ = false:=frozen_of_row w g i cs t h
theorem ah (w:World) (o:Obj) {n:Nat} (h:n = w.heap.size):(w.alloc o).heap[n]? = some o:=by subst h; exact heap_alloc_new w o
end Go.Proofs.YtmhhcfceikcfbaaGreat
namespace Go.Proofs.YtmhhcfceikcfbaaGreat
open Go.RowKit
set_option maxRecDepth 100000
set_option maxHeartbeats 4000000
theorem av (w:World) (row:Option Nat):w.grownBy w row:=⟨rfl,rfl,rfl,Nat.le_refl _,fun _ _ _ => rfl⟩
end Go.Proofs.YtmhhcfceikcfbaaGreat
namespace Go.Proofs.YtmhhcfceikcfbaaGreat
inductive Rs (α:Type) where
 | ok (x:α) (n:Nat)
 | err (e:Int)
abbrev Rd (α:Type):=List Nat→Rs α
def Rs.more {α:Type} (k:Nat):Rs α→Rs α
 | .ok x n => .ok x (k + n)
 | .err e => .err e
def Rs.map {α β:Type} (f:α→β):Rs α→Rs β
 | .ok x n => .ok (f x) n
 | .err e => .err e
def bnd {α β:Type} (p:Rd α) (f:α→Rd β):Rd β:=fun l =>
 match p l with
 | .ok x n => (f x (l.drop n)).more n
 | .err e => .err e
def ret {α:Type} (x:α):Rd α:=fun _ => .ok x 0
def aR {α:Type} (p:Rd α):Nat→Rd (List α)
 | 0 => ret []
 | n + 1 => bnd p fun x => bnd (aR p n) fun r => ret (x::r)
def vb (u:Nat):List Nat:=if u < 128 then [u] else (u % 128 + 128)::vb (u / 128)
def zz (n:Int):Nat:=if n < 0 then (-2 * n - 1).toNat else (2 * n).toNat
def encN (n:Int):List Nat:=vb (zz n)
def unzz (u:Nat):Int:=if u % 2 = 1 then -(u / 2:Nat) - 1 else (u / 2:Nat)
def rdV (i u:Nat):List Nat→Rs Nat
 | [] => .err 34
 | b::r => if (i = 9∧1 < b)∨(0 < i∧b = 0) then .err 15 else if b < 128 then .ok (u + b * 128 ^ i) 1 else (rdV (i + 1) (u + (b - 128) * 128 ^ i) r).more 1
def rdN:Rd Int:=fun l => (rdV 0 0 l).map unzz
def I64 (n:Int):Prop:=-9223372036854775808≤n∧n≤9223372036854775807
structure Fit {α:Type} (e:α→List Nat) (p:Rd α) (dom:α→Prop):Prop where
 back:∀ x,dom x→∀ r,p (e x++r) = .ok x (e x).length
 read:∀ l x k,(∀ b∈l,b < 256)→p l = .ok x k→k≤l.length∧l.take k = e x∧dom x
 cuts:∀ x,dom x→∀ q,(∃ r,r≠[]∧e x = q++r)→p q = .err 34
theorem unzz_zz (n:Int):unzz (zz n) = n:=by
 unfold unzz zz
 split <;> split <;> omega
theorem zz_unzz (u:Nat):zz (unzz u) = u:=by
 unfold unzz zz
 split <;> split <;> omega
theorem zz_lt {n:Int} (h:I64 n):zz n < 18446744073709551616:=by
 unfold I64 at h
 unfold zz
 split <;> omega
theorem unzz_in {u:Nat} (h:u < 18446744073709551616):I64 (unzz u):=by
 unfold I64 unzz
 split <;> omega
theorem vb_ne (u:Nat):vb u≠[]:=by
 rw [vb]
 split <;> simp
theorem vb_lt (u:Nat):∀ b∈vb u,b < 256:=by
 induction u using Nat.strongRecOn with
 | ind u ih =>
  intro b hb
  rw [vb] at hb
  split at hb
  ·simp at hb; omega
  rcases List.mem_cons.1 hb with h | h
  ·omega
  exact ih (u / 128) (by omega) b h
theorem rdV_back (u:Nat):∀ (i a:Nat) (r:List Nat),u * 128 ^ i < 18446744073709551616→(0 < i→0 < u)→i≤9→rdV i a (vb u++r) = .ok (a + u * 128 ^ i) (vb u).length:=by
 induction u using Nat.strongRecOn with
 | ind u ih =>
  intro i a r hlt h0 hi
  rw [vb]
  have h9:i = 9→u < 2:=fun h => by subst h; omega
  split
  ·rename_i hu
   show rdV i a (u::([]++r)) = _
   rw [rdV,if_neg,if_pos hu]
   ·rfl
   rintro (⟨h1,h2⟩ | ⟨h1,h2⟩)
   ·have:=h9 h1; omega
   have:=h0 h1; omega
  rename_i hu
  have hi9:i < 9:=by
   rcases Nat.lt_or_ge i 9 with h | h
   ·exact h
   have:=h9 (by omega); omega
  show rdV i a ((u % 128 + 128)::(vb (u / 128)++r)) = _
  rw [rdV,if_neg,if_neg (by omega),ih (u / 128) (by omega) (i + 1) _ r _ (fun _ => by omega) (by omega)]
  ·have e:a + (u % 128 + 128 - 128) * 128 ^ i + u / 128 * 128 ^ (i + 1) = a + u * 128 ^ i:=by
    rw [Nat.pow_succ,Nat.add_sub_cancel,Nat.add_assoc,<- Nat.mul_assoc,Nat.mul_right_comm,<- Nat.add_mul]
    congr 2
    omega
   rw [List.length_cons,Nat.add_comm (vb (u / 128)).length,<- e]
   rfl
  ·rw [Nat.pow_succ,<- Nat.mul_assoc,Nat.mul_right_comm]
   refine Nat.lt_of_le_of_lt (Nat.mul_le_mul_right _ ?_) hlt
   omega
  rintro (⟨h1,h2⟩ | ⟨h1,h2⟩) <;> omega
theorem rdV_only:∀ (l:List Nat) (i a v k:Nat),(∀ b∈l,b < 256)→i≤9→rdV i a l = .ok v k→∃ u,v = a + u * 128 ^ i∧k≤l.length∧l.take k = vb u∧(0 < i→0 < u)∧u * 128 ^ i < 18446744073709551616
 | [],i,a,v,k,_,_,h => by simp [rdV] at h
 | b::r,i,a,v,k,hb,hi,h => by
  rw [rdV] at h
  split at h
  ·cases h
  ·rename_i hn
   split at h
   ·rename_i hl
    injection h with h1 h2
    subst h2
    refine ⟨b,h1.symm,by simp,?_,fun h0 => ?_,?_⟩
    ·rw [vb,if_pos hl]; rfl
    ·rcases Nat.eq_zero_or_pos b with hz | hz
     ·exact absurd (.inr ⟨h0,hz⟩) hn
     ·exact hz
    ·rcases Nat.lt_or_ge i 9 with h9 | h9
     ·have:128 ^ i≤128 ^ 8:=Nat.pow_le_pow_right (by decide) (by omega)
      have:=Nat.mul_le_mul (Nat.le_of_lt_succ (show b < 127 + 1 from hl)) this
      omega
     ·have h9':i = 9:=by omega
      subst h9'
      have hb1:b≤1:=Nat.le_of_not_lt (fun hh => hn (.inl ⟨rfl,hh⟩))
      have:=Nat.mul_le_mul_right (128 ^ 9) hb1
      omega
   ·rename_i hl
    cases hr:rdV (i + 1) (a + (b - 128) * 128 ^ i) r with
    | err e => rw [hr] at h; cases h
    | ok v' k' =>
     rw [hr] at h
     unfold Rs.more at h
     injection h with h1 h2
     subst h1 h2
     have hi9:i < 9:=by
      rcases Nat.lt_or_ge i 9 with h | h
      ·exact h
      ·exact absurd (.inl ⟨by omega,by omega⟩) hn
     obtain ⟨u,e1,e2,e3,e4,e5⟩:=rdV_only r (i + 1) _ _ _ (fun x hx => hb x (List.mem_cons_of_mem _ hx)) (by omega) hr
     have hb2:=hb b (List.mem_cons_self ..)
     have hu0:=e4 (by omega)
     have hs:(b - 128 + u * 128) * 128 ^ i = (b - 128) * 128 ^ i + u * 128 ^ (i + 1):=by
      rw [Nat.add_mul,Nat.pow_succ,Nat.mul_assoc u,Nat.mul_comm 128]
     refine ⟨b - 128 + u * 128,?_,by simp only [List.length_cons]; omega,?_,fun _ => by omega,?_⟩
     ·rw [hs,e1]; omega
     ·rw [show 1 + k' = k' + 1 by omega,List.take_succ_cons,e3]
      conv => rhs; rw [vb,if_neg (by omega)]
      rw [show (b - 128 + u * 128) % 128 + 128 = b by omega,show (b - 128 + u * 128) / 128 = u by omega]
     ·rw [hs]
      have h1:(b - 128)≤127:=by omega
      have h2:(b - 128) * 128 ^ i < 128 ^ (i + 1):=by
       rw [Nat.pow_succ,Nat.mul_comm]
       exact Nat.mul_lt_mul_of_pos_left (by omega) (Nat.pow_pos (by decide))
      have hd:18446744073709551616 = 128 ^ (i + 1) * (2 * 128 ^ (8 - i)):=by
       have:(18446744073709551616:Nat) = 2 * 128 ^ 9:=by decide
       rw [this,Nat.mul_left_comm,<- Nat.pow_add]
       congr 2
       omega
      rw [hd] at e5 ⊢
      rw [Nat.mul_comm] at e5
      have h3:=Nat.lt_of_mul_lt_mul_left e5
      have h4:=Nat.mul_le_mul_left (128 ^ (i + 1)) (Nat.succ_le_of_lt h3)
      rw [Nat.succ_eq_add_one,Nat.mul_add,Nat.mul_one] at h4
      rw [Nat.mul_comm u]
      omega
theorem rdV_cuts (u:Nat):∀ (i a:Nat) (q r:List Nat),u * 128 ^ i < 18446744073709551616→(0 < i→0 < u)→i≤9→r≠[]→vb u = q++r→rdV i a q = .err 34:=by
 induction u using Nat.strongRecOn with
 | ind u ih =>
  intro i a q r hlt h0 hi hr hq
  cases q with
  | nil => rfl
  | cons b q =>
   have h9:i = 9→u < 2:=fun h => by subst h; omega
   rw [vb] at hq
   split at hq
   ·simp only [List.cons_append,List.cons.injEq] at hq
    exact absurd (List.append_eq_nil_iff.1 hq.2.symm).2 hr
   rename_i hu
   have hi9:i < 9:=by
    rcases Nat.lt_or_ge i 9 with h | h
    ·exact h
    have:=h9 (by omega); omega
   simp only [List.cons_append,List.cons.injEq] at hq
   obtain ⟨hb,hq⟩:=hq
   rw [rdV,if_neg,if_neg (by omega),ih (u / 128) (by omega) (i + 1) _ q r _ (fun _ => by omega) (by omega) hr hq]
   ·rfl
   ·rw [Nat.pow_succ,<- Nat.mul_assoc,Nat.mul_right_comm]
    refine Nat.lt_of_le_of_lt (Nat.mul_le_mul_right _ ?_) hlt
    omega
   rintro (⟨h1,h2⟩ | ⟨h1,h2⟩) <;> omega
theorem fitN:Fit encN rdN I64 where
 back n h r:=by
  unfold rdN encN
  rw [rdV_back (zz n) 0 0 r (by have:=zz_lt h; omega) (by omega) (by omega)]
  simp only [Rs.map,Nat.pow_zero,Nat.mul_one,Nat.zero_add,unzz_zz]
 read l x k hl h:=by
  unfold rdN at h
  cases hr:rdV 0 0 l with
  | err e => rw [hr] at h; cases h
  | ok v k' =>
   rw [hr] at h
   unfold Rs.map at h
   injection h with h1 h2
   subst h1 h2
   obtain ⟨u,e1,e2,e3,_,e5⟩:=rdV_only l 0 0 v k' hl (by omega) hr
   simp only [Nat.pow_zero,Nat.mul_one,Nat.zero_add] at e1 e5
   subst e1
   refine ⟨e2,?_,unzz_in e5⟩
   unfold encN
   rw [zz_unzz]
   exact e3
 cuts n h q hq:=by
  obtain ⟨r,hr,hq⟩:=hq
  unfold rdN
  rw [rdV_cuts (zz n) 0 0 q r (by have:=zz_lt h; omega) (by omega) (by omega) hr hq]
  rfl
section
variable {α β γ:Type}
def seqE (e:α→List Nat) (f:β→List Nat):α × β→List Nat:=fun x => e x.1++f x.2
def seqR (p:Rd α) (q:Rd β):Rd (α × β):=bnd p fun x => bnd q fun y => ret (x,y)
theorem Rs.more_more (a b:Nat) (x:Rs α):(x.more a).more b = x.more (b + a):=by
 cases x <;> simp [Rs.more,Nat.add_assoc]
theorem seqR_eq (p:Rd α) (q:Rd β) (l:List Nat):seqR p q l = match p l with
  | .ok x n => (match q (l.drop n) with | .ok y m => .ok (x,y) (n + m) | .err e => .err e)
  | .err e => .err e:=by
 unfold seqR bnd
 cases p l with
 | err e => rfl
 | ok x n =>
  simp only
  cases q (l.drop n) <;> rfl
theorem prefix_split {a b q r:List Nat} (h:a++b = q++r):(∃ s,s≠[]∧a = q++s)∨(∃ s,q = a++s∧b = s++r):=by
 rcases List.append_eq_append_iff.1 h with ⟨s,h1,h2⟩ | ⟨s,h1,h2⟩
 ·exact .inr ⟨s,h1,h2⟩
 by_cases hs:s = []
 ·subst hs
  exact .inr ⟨[],by simpa using h1.symm,by simpa using h2.symm⟩
 exact .inl ⟨s,hs,h1⟩
theorem Fit.seq {e:α→List Nat} {p:Rd α} {d:α→Prop} {f:β→List Nat} {q:Rd β} {d':β→Prop} (h:Fit e p d) (g:Fit f q d'):Fit (seqE e f) (seqR p q) (fun x => d x.1∧d' x.2) where
 back x hx r:=by
  rw [seqR_eq]
  unfold seqE
  rw [List.append_assoc,h.back x.1 hx.1]
  simp only [List.drop_left,g.back x.2 hx.2,List.length_append]
 read l x k hl hp:=by
  rw [seqR_eq] at hp
  cases hr:p l with
  | err e => rw [hr] at hp; cases hp
  | ok y n =>
   rw [hr] at hp
   simp only at hp
   cases hr2:q (l.drop n) with
   | err e => rw [hr2] at hp; cases hp
   | ok z m =>
    rw [hr2] at hp
    simp only at hp
    injection hp with h1 h2
    subst h1 h2
    obtain ⟨a1,a2,a3⟩:=h.read l y n hl hr
    obtain ⟨b1,b2,b3⟩:=g.read _ z m (fun b hb => hl b (List.mem_of_mem_drop hb)) hr2
    rw [List.length_drop] at b1
    refine ⟨by omega,?_,a3,b3⟩
    unfold seqE
    rw [List.take_add,a2,b2]
 cuts x hx l hq:=by
  obtain ⟨r,hr,hq⟩:=hq
  unfold seqE at hq
  rw [seqR_eq]
  rcases prefix_split hq with ⟨s,hs,h1⟩ | ⟨s,rfl,h2⟩
  ·rw [h.cuts x.1 hx.1 l ⟨s,hs,h1⟩]
  rw [h.back x.1 hx.1]
  simp only [List.drop_left]
  rw [g.cuts x.2 hx.2 s ⟨r,hr,h2⟩]
def rdS:Rd Nat:=fun l =>
 match rdN l with
 | .ok n k => if n < 0 then .err 15 else if ((l.length - k:Nat):Int) < n then .err 34 else .ok n.toNat k
 | .err e => .err e
def ak (e:α→List Nat) (l:List α):List Nat:=encN l.length++l.flatMap e
def be (p:Rd α):Rd (List α):=bnd rdS fun n => aR p n
theorem many_cons (p:Rd α) (n:Nat) (l:List Nat):aR p (n + 1) l = match p l with
  | .ok x k => (match aR p n (l.drop k) with | .ok r m => .ok (x::r) (k + m) | .err e => .err e)
  | .err e => .err e:=by
 show bnd p _ l = _
 unfold bnd
 cases p l with
 | err e => rfl
 | ok x k =>
  simp only
  cases aR p n (l.drop k) <;> rfl
theorem many_back {e:α→List Nat} {p:Rd α} {d:α→Prop} (h:Fit e p d):∀ (x:List α),(∀ y∈x,d y)→∀ r,aR p x.length (x.flatMap e++r) = .ok x (x.flatMap e).length
 | [],_,r => rfl
 | y::x,hx,r => by
  rw [List.length_cons,many_cons,List.flatMap_cons,List.append_assoc,h.back y (hx y (List.mem_cons_self ..))]
  simp only [List.drop_left]
  rw [many_back h x (fun z hz => hx z (List.mem_cons_of_mem _ hz)) r,List.length_append]
theorem many_only {e:α→List Nat} {p:Rd α} {d:α→Prop} (h:Fit e p d):∀ (n:Nat) (l:List Nat) (x:List α) (k:Nat),(∀ b∈l,b < 256)→aR p n l = .ok x k→k≤l.length∧l.take k = x.flatMap e∧(∀ y∈x,d y)∧x.length = n
 | 0,l,x,k,_,hp => by
  injection hp with h1 h2
  subst h1 h2
  exact ⟨by omega,rfl,(fun y hy => absurd hy (by simp)),rfl⟩
 | n + 1,l,x,k,hl,hp => by
  rw [many_cons] at hp
  cases hr:p l with
  | err e => rw [hr] at hp; cases hp
  | ok y j =>
   rw [hr] at hp
   simp only at hp
   cases hr2:aR p n (l.drop j) with
   | err e => rw [hr2] at hp; cases hp
   | ok z m =>
    rw [hr2] at hp
    simp only at hp
    injection hp with h1 h2
    subst h1 h2
    obtain ⟨a1,a2,a3⟩:=h.read l y j hl hr
    obtain ⟨b1,b2,b3,b4⟩:=many_only h n _ z m (fun b hb => hl b (List.mem_of_mem_drop hb)) hr2
    rw [List.length_drop] at b1
    refine ⟨by omega,by rw [List.take_add,a2,b2,List.flatMap_cons],fun w hw => ?_,by rw [List.length_cons,b4]⟩
    rcases List.mem_cons.1 hw with rfl | hw
    ·exact a3
    ·exact b3 w hw
theorem many_cuts {e:α→List Nat} {p:Rd α} {d:α→Prop} (h:Fit e p d):∀ (x:List α),(∀ y∈x,d y)→∀ q r,r≠[]→x.flatMap e = q++r→aR p x.length q = .err 34
 | [],_,q,r,hr,hq => by
  simp only [List.flatMap_nil] at hq
  exact absurd (List.append_eq_nil_iff.1 hq.symm).2 hr
 | y::x,hx,q,r,hr,hq => by
  rw [List.flatMap_cons] at hq
  rw [List.length_cons,many_cons]
  rcases prefix_split hq with ⟨s,hs,h1⟩ | ⟨s,rfl,h2⟩
  ·rw [h.cuts y (hx y (List.mem_cons_self ..)) q ⟨s,hs,h1⟩]
  ·rw [h.back y (hx y (List.mem_cons_self ..))]
   simp only [List.drop_left]
   rw [many_cuts h x (fun z hz => hx z (List.mem_cons_of_mem _ hz)) s r hr h2]
theorem rdS_eq (l:List Nat):rdS l = match rdN l with
  | .ok n k => if n < 0 then .err 15 else if ((l.length - k:Nat):Int) < n then .err 34 else .ok n.toNat k
  | .err e => .err e:=rfl
theorem rdS_back {n:Nat} (hn:n≤9223372036854775807) (r:List Nat) (h:n≤r.length):rdS (encN n++r) = .ok n (encN (n:Int)).length:=by
 rw [rdS_eq,fitN.back (n:Int) ⟨by omega,by omega⟩]
 simp only
 rw [if_neg (by omega),if_neg (by rw [List.length_append]; omega)]
 rfl
theorem rdS_only {l:List Nat} {n k:Nat} (hl:∀ b∈l,b < 256) (h:rdS l = .ok n k):k≤l.length∧l.take k = encN n∧n + k≤l.length∧n≤9223372036854775807:=by
 rw [rdS_eq] at h
 cases hr:rdN l with
 | err e => rw [hr] at h; cases h
 | ok m j =>
  rw [hr] at h
  simp only at h
  split at h
  ·cases h
  split at h
  ·cases h
  injection h with h1 h2
  subst h1 h2
  obtain ⟨a1,a2,a3⟩:=fitN.read l m j hl hr
  have h3:((m.toNat:Nat):Int) = m:=by omega
  unfold I64 at a3
  refine ⟨a1,by rw [h3]; exact a2,by omega,by omega⟩
theorem rdS_cuts {n:Nat} (hn:n≤9223372036854775807) (q r s:List Nat) (h:encN n++s = q++r):rdS q = .err 34∨∃ t,q = encN n++t∧s = t++r∧(rdS q = .err 34∨rdS q = .ok n (encN (n:Int)).length):=by
 rcases prefix_split h with ⟨a,ha,h1⟩ | ⟨t,rfl,h2⟩
 ·refine .inl ?_
  rw [rdS_eq,fitN.cuts (n:Int) ⟨by omega,by omega⟩ q ⟨a,ha,h1⟩]
 refine .inr ⟨t,rfl,h2,?_⟩
 rw [rdS_eq,fitN.back (n:Int) ⟨by omega,by omega⟩]
 simp only
 rw [if_neg (by omega)]
 split
 ·exact .inl rfl
 exact .inr rfl
theorem flat_ge {e:α→List Nat} (he:∀ x,e x≠[]):∀ (l:List α),l.length≤(l.flatMap e).length
 | [] => by simp
 | x::l => by
  rw [List.flatMap_cons,List.length_append,List.length_cons]
  have:=flat_ge he l
  have:=List.length_pos_iff.2 (he x)
  omega
theorem Fit.list {e:α→List Nat} {p:Rd α} {d:α→Prop} (h:Fit e p d) (he:∀ x,e x≠[]):Fit (ak e) (be p) (fun l => l.length≤9223372036854775807∧∀ x∈l,d x) where
 back x hx r:=by
  have hg:=flat_ge he x
  unfold ak be bnd
  rw [List.append_assoc,rdS_back hx.1 _ (by rw [List.length_append]; omega)]
  simp only [List.drop_left]
  rw [many_back h x hx.2 r]
  simp [Rs.more]
 read l x k hl hp:=by
  unfold be bnd at hp
  cases hr:rdS l with
  | err e => rw [hr] at hp; cases hp
  | ok n j =>
   rw [hr] at hp
   simp only at hp
   cases hr2:aR p n (l.drop j) with
   | err e => rw [hr2] at hp; cases hp
   | ok z m =>
    rw [hr2] at hp
    unfold Rs.more at hp
    injection hp with h1 h2
    subst h1 h2
    obtain ⟨a1,a2,a3,a4⟩:=rdS_only hl hr
    obtain ⟨b1,b2,b3,b4⟩:=many_only h n _ z m (fun b hb => hl b (List.mem_of_mem_drop hb)) hr2
    rw [List.length_drop] at b1
    refine ⟨by omega,?_,by omega,b3⟩
    unfold ak
    rw [List.take_add,a2,b2,b4]
 cuts x hx q hq:=by
  obtain ⟨r,hr,hq⟩:=hq
  have hg:=flat_ge he x
  unfold ak at hq
  unfold be bnd
  rcases rdS_cuts hx.1 q r _ hq with h1 | ⟨t,rfl,h2,h1 | h1⟩
  ·rw [h1]
  ·rw [h1]
  rw [h1]
  simp only [List.drop_left]
  rw [many_cuts h x hx.2 t r hr h2]
  rfl
def textE (s:List Nat):List Nat:=encN s.length++s
def textR:Rd (List Nat):=bnd rdS fun n l => .ok (l.take n) n
theorem fitT:Fit textE textR (fun s => s.length≤9223372036854775807∧∀ b∈s,b < 256) where
 back x hx r:=by
  unfold textE textR bnd
  rw [List.append_assoc,rdS_back hx.1 _ (by rw [List.length_append]; omega)]
  simp only [List.drop_left,List.take_left]
  simp [Rs.more]
 read l x k hl hp:=by
  unfold textR bnd at hp
  cases hr:rdS l with
  | err e => rw [hr] at hp; cases hp
  | ok n j =>
   rw [hr] at hp
   simp only [Rs.more] at hp
   injection hp with h1 h2
   subst h1 h2
   obtain ⟨a1,a2,a3,a4⟩:=rdS_only hl hr
   have hlen:((l.drop j).take n).length = n:=by rw [List.length_take,List.length_drop]; omega
   refine ⟨by omega,?_,by rw [hlen]; exact a4,fun b hb => hl b (List.mem_of_mem_drop (List.mem_of_mem_take hb))⟩
   unfold textE
   rw [List.take_add,a2,hlen]
 cuts x hx q hq:=by
  obtain ⟨r,hr,hq⟩:=hq
  unfold textE at hq
  unfold textR bnd
  rcases rdS_cuts hx.1 q r _ hq with h1 | ⟨t,rfl,h2,h1 | h1⟩
  ·rw [h1]
  ·rw [h1]
  exfalso
  rw [rdS_eq,fitN.back (x.length:Int) ⟨by omega,by omega⟩] at h1
  simp only at h1
  rw [if_neg (by omega),if_pos] at h1
  ·cases h1
  have h3:=congrArg List.length h2
  rw [List.length_append] at h3
  have h4:=List.length_pos_iff.2 hr
  rw [List.length_append]
  omega
def flagE (b:Bool):List Nat:=encN (if b then 1 else 0)
def flagR:Rd Bool:=fun l =>
 match rdN l with
 | .ok n k => if n = 0 then .ok false k else if n = 1 then .ok true k else .err 15
 | .err e => .err e
theorem fitB:Fit flagE flagR (fun _ => True) where
 back x hx r:=by
  unfold flagE flagR
  rw [fitN.back _ (by unfold I64; cases x <;> decide)]
  cases x
  ·rfl
  ·rfl
 read l x k hl hp:=by
  unfold flagR at hp
  cases hr:rdN l with
  | err e => rw [hr] at hp; cases hp
  | ok n j =>
   rw [hr] at hp
   simp only at hp
   obtain ⟨a1,a2,a3⟩:=fitN.read l n j hl hr
   split at hp
   ·rename_i h0
    injection hp with h1 h2
    subst h1 h2 h0
    exact ⟨a1,a2,trivial⟩
   split at hp
   ·rename_i h0
    injection hp with h1 h2
    subst h1 h2 h0
    exact ⟨a1,a2,trivial⟩
   cases hp
 cuts x hx q hq:=by
  unfold flagR
  rw [fitN.cuts _ (by unfold I64; cases x <;> decide) q hq]
end
end Go.Proofs.YtmhhcfceikcfbaaGreat
namespace Go.Proofs.YtmhhcfceikcfbaaGreat
def al (s:ByteArray):List Nat:=s.data.toList.map UInt8.toNat
def mkB (l:List Nat):ByteArray:=⟨(l.map UInt8.ofNat).toArray⟩
theorem bytesN_lt (s:ByteArray):∀ b∈al s,b < 256:=fun b hb => by
 obtain ⟨c,_,rfl⟩:=List.mem_map.1 hb
 exact c.toNat_lt
theorem aE (s:ByteArray):(al s).length = s.size:=by simp [al]
theorem mkB_bytesN (s:ByteArray):mkB (al s) = s:=by
 have h:((al s).map UInt8.ofNat) = s.data.toList:=by
  unfold al
  rw [List.map_map]
  have:UInt8.ofNat ∘ UInt8.toNat = id:=by funext x; simp
  rw [this,List.map_id]
 unfold mkB
 rw [h]
theorem bytesN_mkB {l:List Nat} (h:∀ b∈l,b < 256):al (mkB l) = l:=by
 unfold al mkB
 rw [List.map_map]
 conv => rhs; rw [<- List.map_id l]
 refine List.map_congr_left fun b hb => ?_
 simp only [Function.comp,id,UInt8.toNat_ofNat']
 exact Nat.mod_eq_of_lt (h b hb)
theorem bytesN_inj {s t:ByteArray} (h:al s = al t):s = t:=by rw [<- mkB_bytesN s,h,mkB_bytesN]
def strE (s:ByteArray):List Nat:=textE (al s)
def strR:Rd ByteArray:=fun l => (textR l).map mkB
theorem fitS:Fit strE strR (fun s => s.size≤9223372036854775807) where
 back s hs r:=by
  unfold strE strR
  rw [fitT.back _ ⟨by rw [aE]; exact hs,bytesN_lt s⟩]
  simp [Rs.map,mkB_bytesN]
 read l s k hl hp:=by
  unfold strR at hp
  cases hr:textR l with
  | err e => rw [hr] at hp; cases hp
  | ok x n =>
   rw [hr] at hp
   unfold Rs.map at hp
   injection hp with e1 e2
   subst e1 e2
   obtain ⟨a1,a2,a3,a4⟩:=fitT.read l x n hl hr
   refine ⟨a1,?_,?_⟩
   ·unfold strE
    rw [bytesN_mkB a4]
    exact a2
   rw [<- aE,bytesN_mkB a4]
   exact a3
 cuts s hs q hq:=by
  unfold strR
  rw [fitT.cuts _ ⟨by rw [aE]; exact hs,bytesN_lt s⟩ q hq]
  rfl
theorem encN_ne (n:Int):encN n≠[]:=vb_ne _
theorem strE_ne (s:ByteArray):strE s≠[]:=by
 unfold strE textE
 intro h
 exact encN_ne _ (List.append_eq_nil_iff.1 h).1
theorem listE_ne {α:Type} {e:α→List Nat} (l:List α):ak e l≠[]:=by
 unfold ak
 intro h
 exact encN_ne _ (List.append_eq_nil_iff.1 h).1
theorem seqE_ne {α β:Type} {e:α→List Nat} {f:β→List Nat} (h:∀ x,e x≠[]) (x:α × β):seqE e f x≠[]:=by
 unfold seqE
 intro h2
 exact h _ (List.append_eq_nil_iff.1 h2).1
abbrev Two:=Int × Int
abbrev Lay:=Int × Int × Int × Bool
abbrev Hd:=List Two × Int × Int × List Two × List Lay
abbrev Lvl:=Int × Int × ByteArray × Int
abbrev Sty:=Int × Int × ByteArray × Int × Int × List Two
abbrev Lst:=Int × List Lvl
abbrev Cmt:=Int × Int × ByteArray × Int × ByteArray × Bool
abbrev Vr:=ByteArray × ByteArray
abbrev Rev:=Int × ByteArray × Int
abbrev Stg:=List Sty × List Lst × List Cmt × List Vr
abbrev ItS (α:Type):=Int × Int × Int × ByteArray × Hd × List α × List (Hd × List (Int × Hd × List α))
def It:Nat→Type
 | 0 => Empty
 | n + 1 => ItS (It n)
abbrev Ce (n:Nat):=Int × Hd × List (It n)
abbrev Rw (n:Nat):=Hd × List (Ce n)
def twoE:Two→List Nat:=seqE encN encN
def layE:Lay→List Nat:=seqE encN (seqE encN (seqE encN flagE))
def hdE:Hd→List Nat:=seqE (ak twoE) (seqE encN (seqE encN (seqE (ak twoE) (ak layE))))
def lvlE:Lvl→List Nat:=seqE encN (seqE encN (seqE strE encN))
def styE:Sty→List Nat:=seqE encN (seqE encN (seqE strE (seqE encN (seqE encN (ak twoE)))))
def lstE:Lst→List Nat:=seqE encN (ak lvlE)
def cmtE:Cmt→List Nat:=seqE encN (seqE encN (seqE strE (seqE encN (seqE strE flagE))))
def vrE:Vr→List Nat:=seqE strE strE
def revE:Rev→List Nat:=seqE encN (seqE strE encN)
def stgE:Stg→List Nat:=seqE (ak styE) (seqE (ak lstE) (seqE (ak cmtE) (ak vrE)))
def ceE {α:Type} (e:α→List Nat):Int × Hd × List α→List Nat:=seqE encN (seqE hdE (ak e))
def rwE {α:Type} (e:α→List Nat):Hd × List (Int × Hd × List α)→List Nat:=seqE hdE (ak (ceE e))
def isE {α:Type} (e:α→List Nat):ItS α→List Nat:=seqE encN (seqE encN (seqE encN (seqE strE (seqE hdE (seqE (ak e) (ak (rwE e)))))))
def itE:(n:Nat)→It n→List Nat
 | 0 => fun x => Empty.elim x
 | n + 1 => isE (itE n)
def twoR:Rd Two:=seqR rdN rdN
def layR:Rd Lay:=seqR rdN (seqR rdN (seqR rdN flagR))
def hdR:Rd Hd:=seqR (be twoR) (seqR rdN (seqR rdN (seqR (be twoR) (be layR))))
def lvlR:Rd Lvl:=seqR rdN (seqR rdN (seqR strR rdN))
def styR:Rd Sty:=seqR rdN (seqR rdN (seqR strR (seqR rdN (seqR rdN (be twoR)))))
def lstR:Rd Lst:=seqR rdN (be lvlR)
def cmtR:Rd Cmt:=seqR rdN (seqR rdN (seqR strR (seqR rdN (seqR strR flagR))))
def vrR:Rd Vr:=seqR strR strR
def revR:Rd Rev:=seqR rdN (seqR strR rdN)
def stgR:Rd Stg:=seqR (be styR) (seqR (be lstR) (seqR (be cmtR) (be vrR)))
def ceR {α:Type} (p:Rd α):Rd (Int × Hd × List α):=seqR rdN (seqR hdR (be p))
def rwR {α:Type} (p:Rd α):Rd (Hd × List (Int × Hd × List α)):=seqR hdR (be (ceR p))
def isR {α:Type} (p:Rd α):Rd (ItS α):=seqR rdN (seqR rdN (seqR rdN (seqR strR (seqR hdR (seqR (be p) (be (rwR p)))))))
def itR:(n:Nat)→Rd (It n)
 | 0 => fun _ => .err 34
 | n + 1 => isR (itR n)
def Li {α:Type} (d:α→Prop) (l:List α):Prop:=l.length≤9223372036854775807∧∀ x∈l,d x
def twoD (x:Two):Prop:=I64 x.1∧I64 x.2
def layD (x:Lay):Prop:=I64 x.1∧I64 x.2.1∧I64 x.2.2.1∧True
def hdD (x:Hd):Prop:=Li twoD x.1∧I64 x.2.1∧I64 x.2.2.1∧Li twoD x.2.2.2.1∧Li layD x.2.2.2.2
def szD (s:ByteArray):Prop:=s.size≤9223372036854775807
def lvlD (x:Lvl):Prop:=I64 x.1∧I64 x.2.1∧szD x.2.2.1∧I64 x.2.2.2
def styD (x:Sty):Prop:=I64 x.1∧I64 x.2.1∧szD x.2.2.1∧I64 x.2.2.2.1∧I64 x.2.2.2.2.1∧Li twoD x.2.2.2.2.2
def lstD (x:Lst):Prop:=I64 x.1∧Li lvlD x.2
def cmtD (x:Cmt):Prop:=I64 x.1∧I64 x.2.1∧szD x.2.2.1∧I64 x.2.2.2.1∧szD x.2.2.2.2.1∧True
def vrD (x:Vr):Prop:=szD x.1∧szD x.2
def revD (x:Rev):Prop:=I64 x.1∧szD x.2.1∧I64 x.2.2
def stgD (x:Stg):Prop:=Li styD x.1∧Li lstD x.2.1∧Li cmtD x.2.2.1∧Li vrD x.2.2.2
def ceD {α:Type} (d:α→Prop) (x:Int × Hd × List α):Prop:=I64 x.1∧hdD x.2.1∧Li d x.2.2
def rwD {α:Type} (d:α→Prop) (x:Hd × List (Int × Hd × List α)):Prop:=hdD x.1∧Li (ceD d) x.2
def isD {α:Type} (d:α→Prop) (x:ItS α):Prop:=I64 x.1∧I64 x.2.1∧I64 x.2.2.1∧szD x.2.2.2.1∧hdD x.2.2.2.2.1∧Li d x.2.2.2.2.2.1∧Li (rwD d) x.2.2.2.2.2.2
def itD:(n:Nat)→It n→Prop
 | 0 => fun x => Empty.elim x
 | n + 1 => isD (itD n)
theorem fit_two:Fit twoE twoR twoD:=fitN.seq fitN
theorem fit_lay:Fit layE layR layD:=fitN.seq (fitN.seq (fitN.seq fitB))
theorem twoE_ne (x:Two):twoE x≠[]:=seqE_ne encN_ne x
theorem layE_ne (x:Lay):layE x≠[]:=seqE_ne encN_ne x
theorem fit_hd:Fit hdE hdR hdD:=(fit_two.list twoE_ne).seq (fitN.seq (fitN.seq ((fit_two.list twoE_ne).seq (fit_lay.list layE_ne))))
theorem hdE_ne (x:Hd):hdE x≠[]:=seqE_ne listE_ne x
theorem fit_lvl:Fit lvlE lvlR lvlD:=fitN.seq (fitN.seq (fitS.seq fitN))
theorem fit_sty:Fit styE styR styD:=fitN.seq (fitN.seq (fitS.seq (fitN.seq (fitN.seq (fit_two.list twoE_ne)))))
theorem fit_lst:Fit lstE lstR lstD:=fitN.seq (fit_lvl.list (fun x => seqE_ne encN_ne x))
theorem fit_cmt:Fit cmtE cmtR cmtD:=fitN.seq (fitN.seq (fitS.seq (fitN.seq (fitS.seq fitB))))
theorem fit_vr:Fit vrE vrR vrD:=fitS.seq fitS
theorem fit_rev:Fit revE revR revD:=fitN.seq (fitS.seq fitN)
theorem fit_stg:Fit stgE stgR stgD:=(fit_sty.list (fun x => seqE_ne encN_ne x)).seq ((fit_lst.list (fun x => seqE_ne encN_ne x)).seq ((fit_cmt.list (fun x => seqE_ne encN_ne x)).seq (fit_vr.list (fun x => seqE_ne strE_ne x))))
section
variable {α:Type} {e:α→List Nat} {p:Rd α} {d:α→Prop}
theorem ceE_ne (x:Int × Hd × List α):ceE e x≠[]:=seqE_ne encN_ne x
theorem rwE_ne (x:Hd × List (Int × Hd × List α)):rwE e x≠[]:=seqE_ne hdE_ne x
theorem isE_ne (x:ItS α):isE e x≠[]:=seqE_ne encN_ne x
theorem Fit.ce (h:Fit e p d) (he:∀ x,e x≠[]):Fit (ceE e) (ceR p) (ceD d):=fitN.seq (fit_hd.seq (h.list he))
theorem Fit.rw (h:Fit e p d) (he:∀ x,e x≠[]):Fit (rwE e) (rwR p) (rwD d):=fit_hd.seq ((h.ce he).list ceE_ne)
theorem Fit.is (h:Fit e p d) (he:∀ x,e x≠[]):Fit (isE e) (isR p) (isD d):=fitN.seq (fitN.seq (fitN.seq (fitS.seq (fit_hd.seq ((h.list he).seq ((h.rw he).list rwE_ne))))))
end
theorem itE_ne:∀ (n:Nat) (x:It n),itE n x≠[]
 | 0,x => Empty.elim x
 | n + 1,x => isE_ne (e:=itE n) x
theorem fit_it:∀ (n:Nat),Fit (itE n) (itR n) (itD n)
 | 0 => ⟨(fun x => Empty.elim x),(fun _ _ _ _ h => by cases h),(fun x => Empty.elim x)⟩
 | n + 1 => (fit_it n).is (itE_ne n)
theorem fit_its (n:Nat):Fit (ak (itE n)) (be (itR n)) (Li (itD n)):=(fit_it n).list (itE_ne n)
end Go.Proofs.YtmhhcfceikcfbaaGreat
