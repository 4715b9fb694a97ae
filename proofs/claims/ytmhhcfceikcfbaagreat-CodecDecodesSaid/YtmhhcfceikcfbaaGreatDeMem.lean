/- Words for memory: the writer, and what its calls leave. -/
import Derived.ArgAppend
import Derived.Maps.AppendAt
import Derived.Lib.AppendStr
import Derived.Laws.Tables
import Derived.Test.YtmhhcfceikcfbaaGreatDeLib
namespace Go.Proofs.YtmhhcfceikcfbaaGreat
open Go.RowKit
set_option maxRecDepth 100000
set_option maxHeartbeats 4000000
def encB (b:Nat):List Value:=[.int .u8 (b:Int)]
theorem encB_length (x:Nat):(encB x).length = 1:=rfl
theorem encB_one (x:Nat):∀ u∈encB x,u.oneCell' = true:=by
 intro u hu
 simp only [encB,List.mem_singleton] at hu
 subst hu
 rfl
def Buf (w:World) (B:Nat) (v:Value) (L:List Nat):Prop :=
 Own encB 1 5 w B v L∨∃ g,v = .slice (some ⟨g,0,none⟩) L.length L.length∧B≤g∧g < w.heap.size∧∀ j u,(L.flatMap encB)[j]? = some u→w.cell? ⟨g,j,none⟩ = some u
def rowAt (p:Nat) (w:World):Option Nat:=(w.cell? ⟨p,0,none⟩).bind Value.ownBlock
def Wr (p B:Nat) (w:World) (v:Value) (L:List Nat):Prop :=
 w.heap[p]? = some (.cells #[v] 95 (0,0))∧B≤p∧v.ownBlock≠some p∧Own encB 1 5 w B v L
def WrB (p B:Nat) (w:World) (v:Value) (L:List Nat):Prop :=
 w.heap[p]? = some (.cells #[v] 95 (0,0))∧B≤p∧v.ownBlock≠some p∧Buf w B v L
def WrS (p B:Nat) (w:World) (L:List Nat):Prop:=∃ v,Wr p B w v L
def WrSB (p B:Nat) (w:World) (L:List Nat):Prop:=∃ v,WrB p B w v L
structure Kp (p:Nat) (w w':World):Prop where
 os:w'.os = w.os
 tape:w'.tape = w.tape
 output:w'.output = w.output
 size:w.heap.size≤w'.heap.size
 block:∀ k,k < w.heap.size→k≠p→rowAt p w≠some k→w'.heap[k]? = w.heap[k]?
 row:rowAt p w' = rowAt p w∨∃ g,rowAt p w' = some g∧w.heap.size≤g
theorem Kp.refl (p:Nat) (w:World):Kp p w w:=⟨rfl,rfl,rfl,Nat.le_refl _,fun _ _ _ _ => rfl,.inl rfl⟩
theorem Kp.trans {p:Nat} {a b c:World} (h:Kp p a b) (k:Kp p b c):Kp p a c:=by
 refine ⟨k.os.trans h.os,k.tape.trans h.tape,k.output.trans h.output,Nat.le_trans h.size k.size,fun i hi hp hr => ?_,?_⟩
 ·refine (k.block i (Nat.lt_of_lt_of_le hi h.size) hp ?_).trans (h.block i hi hp hr)
  rcases h.row with e | ⟨g,e,hg⟩
  ·rw [e]; exact hr
  rw [e]
  intro e2
  injection e2 with e2
  omega
 rcases k.row with e | ⟨g,e,hg⟩
 ·rw [e]; exact h.row
 exact .inr ⟨g,e,Nat.le_trans h.size hg⟩
theorem Wr.row_at {p B:Nat} {w:World} {v:Value} {L:List Nat} (h:Wr p B w v L):rowAt p w = v.ownBlock:=by
 unfold rowAt
 rw [aa h.1]
 rfl
theorem WrB.row_at {p B:Nat} {w:World} {v:Value} {L:List Nat} (h:WrB p B w v L):rowAt p w = v.ownBlock:=by
 unfold rowAt
 rw [aa h.1]
 rfl
theorem Wr.buf {p B:Nat} {w:World} {v:Value} {L:List Nat} (h:Wr p B w v L):WrB p B w v L:=⟨h.1,h.2.1,h.2.2.1,.inl h.2.2.2⟩
theorem WrS.buf {p B:Nat} {w:World} {L:List Nat} (h:WrS p B w L):WrSB p B w L:=by
 obtain ⟨v,h⟩:=h
 exact ⟨v,h.buf⟩
theorem heap_lt {w:World} {g:Nat} {o:Obj} (h:w.heap[g]? = some o):g < w.heap.size:=(Array.getElem?_eq_some_iff.1 h).1
theorem Buf.own_lt {w:World} {B:Nat} {v:Value} {L:List Nat} (h:Buf w B v L) (g:Nat) (hg:v.ownBlock = some g):B≤g∧g < w.heap.size:=by
 rcases h with h | ⟨g',rfl,hb,hlt,_⟩
 ·have h1:w.ownsRow B 5 1 v L.length (L.flatMap encB):=h
  exact h1.lt g hg
 simp only [Value.ownBlock,Option.some.injEq] at hg
 subst hg
 exact ⟨hb,hlt⟩
theorem WrB.lt {p B:Nat} {w:World} {v:Value} {L:List Nat} (h:WrB p B w v L):p < w.heap.size:=heap_lt h.1
theorem Kp.below {p B:Nat} {w w':World} {L:List Nat} (h:Kp p w w') (hw:WrSB p B w L):Below B w w':=by
 obtain ⟨v,hw⟩:=hw
 refine ⟨h.os,h.tape,h.output,h.size,fun k hk => h.block k ?_ ?_ ?_⟩
 ·have:=hw.lt; have:=hw.2.1; omega
 ·have:=hw.2.1; omega
 rw [hw.row_at]
 intro e
 have:=(hw.2.2.2.own_lt k e).1
 omega
def Off (p c:Nat) (w:World):Prop:=c < w.heap.size∧c≠p∧rowAt p w≠some c
theorem Off.kp {p c:Nat} {w w':World} (h:Off p c w) (k:Kp p w w'):Off p c w'∧w'.heap[c]? = w.heap[c]?:=by
 refine ⟨⟨Nat.lt_of_lt_of_le h.1 k.size,h.2.1,?_⟩,k.block c h.1 h.2.1 h.2.2⟩
 rcases k.row with e | ⟨g,e,hg⟩
 ·rw [e]; exact h.2.2
 rw [e]
 intro e2
 injection e2 with e2
 have:=h.1
 omega
def At (p:Nat) (a:Addr) (u:Value) (w:World):Prop:=Off p a.block w∧w.cell? a = some u
theorem At.kp {p:Nat} {a:Addr} {u:Value} {w w':World} (h:At p a u w) (k:Kp p w w'):At p a u w' :=
 ⟨(h.1.kp k).1,(World.cell?_of_block (h.1.kp k).2).trans h.2⟩
theorem rowAt_alloc {p:Nat} {w:World} (o:Obj) (hp:p < w.heap.size):rowAt p (w.alloc o) = rowAt p w:=by
 unfold rowAt
 rw [World.cell?_of_block (Below.heap_alloc w o p hp)]
theorem Kp.alloc {p:Nat} {a w:World} (h:Kp p a w) (hp:p < w.heap.size) (o:Obj):Kp p a (w.alloc o) :=
 h.trans ⟨rfl,rfl,rfl,by simp,fun k hk _ _ => Below.heap_alloc _ _ _ hk,.inl (rowAt_alloc o hp)⟩
theorem Buf.alloc {w:World} {B:Nat} {v:Value} {L:List Nat} (h:Buf w B v L) (o:Obj):Buf (w.alloc o) B v L:=by
 rcases h with h | ⟨g,e,hb,hlt,hc⟩
 ·exact .inl (h.alloc o)
 exact .inr ⟨g,e,hb,by simp; omega,fun j u hu => (World.cell?_of_block (Below.heap_alloc w o g hlt)).trans (hc j u hu)⟩
theorem WrB.alloc {p B:Nat} {w:World} {v:Value} {L:List Nat} (h:WrB p B w v L) (o:Obj):WrB p B (w.alloc o) v L :=
 ⟨(Below.heap_alloc w o p h.lt).trans h.1,h.2.1,h.2.2.1,h.2.2.2.alloc o⟩
theorem Wr.alloc {p B:Nat} {w:World} {v:Value} {L:List Nat} (h:Wr p B w v L) (o:Obj):Wr p B (w.alloc o) v L :=
 ⟨(Below.heap_alloc w o p h.buf.lt).trans h.1,h.2.1,h.2.2.1,h.2.2.2.alloc o⟩
theorem WrS.alloc {p B:Nat} {w:World} {L:List Nat} (h:WrS p B w L) (o:Obj):WrS p B (w.alloc o) L:=by
 obtain ⟨v,h⟩:=h
 exact ⟨v,h.alloc o⟩
theorem WrSB.alloc {p B:Nat} {w:World} {L:List Nat} (h:WrSB p B w L) (o:Obj):WrSB p B (w.alloc o) L:=by
 obtain ⟨v,h⟩:=h
 exact ⟨v,h.alloc o⟩
theorem Off.alloc {p c:Nat} {w:World} (h:Off p c w) (hp:p < w.heap.size) (o:Obj):Off p c (w.alloc o) :=
 ⟨by have:=h.1; simp; omega,h.2.1,by rw [rowAt_alloc o hp]; exact h.2.2⟩
theorem At.alloc {p:Nat} {a:Addr} {u:Value} {w:World} (h:At p a u w) (hp:p < w.heap.size) (o:Obj):At p a u (w.alloc o) :=
 ⟨h.1.alloc hp o,(World.cell?_of_block (Below.heap_alloc w o a.block h.1.1)).trans h.2⟩
theorem WrB.off_new {p B:Nat} {w:World} {v:Value} {L:List Nat} (h:WrB p B w v L) (o:Obj):Off p w.heap.size (w.alloc o):=by
 refine ⟨by simp,?_,?_⟩
 ·have:=h.lt; omega
 rw [rowAt_alloc o h.lt,h.row_at]
 intro e
 have:=(h.2.2.2.own_lt _ e).2
 omega
theorem WrB.put {p B:Nat} {w w1 w2:World} {v v':Value} {L M:List Nat} (hk:Kp p w w1) (h1:WrB p B w1 v L) (hown:Own encB 1 5 w2 B v' M) (hg:w1.grownBy w2 v.ownBlock) (hat:v'.ownBlock = v.ownBlock∨∃ g,v'.ownBlock = some g∧w1.heap.size≤g) :
  w2.cell? ⟨p,0,none⟩ = some v∧w2.frozen? ⟨p,0,none⟩ = false∧Wr p B (w2.setCell ⟨p,0,none⟩ v') v' M∧Kp p w (w2.setCell ⟨p,0,none⟩ v'):=by
 have hp1:=h1.lt
 have hb2:w2.heap[p]? = some (.cells #[v] 95 (0,0)):=(hg.block p hp1 (fun e => h1.2.2.1 e.symm)).trans h1.1
 have hb3:(w2.setCell ⟨p,0,none⟩ v').heap[p]? = some (.cells #[v'] 95 (0,0)):=heap_setCell_same w2 p 0 #[v] 95 v' hb2
 have hne:v'.ownBlock≠some p:=by
  rcases hat with e | ⟨g,e,hgs⟩
  ·rw [e]; exact h1.2.2.1
  rw [e]; intro e2; injection e2 with e2; omega
 refine ⟨aa hb2 0,blk_free hb2 0,⟨hb3,h1.2.1,hne,?_⟩,?_⟩
 ·refine hown.kept (row:=some p) ⟨rfl,rfl,rfl,by simp,fun k _ hk => heap_setCell_other w2 ⟨p,0,none⟩ k v' (fun e => hk (by simp [e]))⟩ (.inr hne)
 refine hk.trans ⟨hg.os,hg.tape,hg.output,by simpa using hg.size,fun k hk1 hkp hkr => ?_,?_⟩
 ·rw [heap_setCell_other w2 ⟨p,0,none⟩ k v' (by simpa using hkp)]
  exact hg.block k hk1 (fun e => hkr (by rw [h1.row_at,e]))
 have e1:rowAt p (w2.setCell ⟨p,0,none⟩ v') = v'.ownBlock:=by
  unfold rowAt
  rw [aa hb3]
  rfl
 rw [e1,h1.row_at]
 exact hat
theorem wpList_buf {P:Program} (w:World) {ops:Array Oper} {rest:List Oper} {o:Oper} {a:Act} {Q:Exit→Act→World→Prop}
  (hgd:o.guard = none) (s x:Operand) (t:TypeId)
  (ho:o.op = .call { callee:=.builtin .append,args:=#[s,x],argTypes:=#[t,t] })
  (B:Nat) (i:TypeInfo) (z:Value) (ht:P.underlying t = some (.slice 5)) (hi:P.info? 5 = some i) (hz:i.zero = some z)
  (hsize:i.size = 1) (hby:i.bytes = 1) (hzs:z.cells.size = 1)
  (v:Value) (L:List Nat) (hs:a.eval s = v) (hown:Buf w B v L)
  (g c:Nat) (y:Nat) (hx:a.eval x = .slice (some ⟨g,0,none⟩) 1 c) (hcell:w.cell? ⟨g,0,none⟩ = some (.int .u8 (y:Int)))
  (hlen:L.length < 140737488355328) (hbase:B≤w.heap.size)
  (h:∀ v' w',Own encB 1 5 w' B v' (L++[y])→w.grownBy w' v.ownBlock→(v'.ownBlock = v.ownBlock∨∃ g,v'.ownBlock = some g∧w.heap.size≤g)→wpList P ops Q rest (a.put o.dst v') w'):wpList P ops Q (o::rest) a w:=by
 have hcs:∀ j u,(encB y)[j]? = some u→w.cell? ((⟨g,0,none⟩:Addr).add j) = some u:=by
  intro j u hu
  cases j with
  | zero =>
   simp only [encB,List.getElem?_cons_zero,Option.some.injEq] at hu
   subst hu
   rw [addr_add]
   exact hcell
  | succ j => simp [encB] at hu
 rcases hown with hown | ⟨g',rfl,hb,hlt,hc⟩
 ·refine wpList_append_own_at _ hgd s x t ho B 5 i z 1 1 ht hi hz hsize hby hzs (by decide) v L.length (L.flatMap encB) hs hown ⟨g,0,none⟩ 1 c (encB y) hx rfl hcs (encB_one y) ?_ (by omega) hbase ?_
  ·simp only [maxLen]; omega
  intro v' w' hown' hg _ hat
  refine h v' w' ?_ hg ?_
  ·unfold Own
   rw [List.length_append,List.flatMap_append]
   simpa using hown'
  rcases hat with e | e
  ·exact .inl e
  exact .inr ⟨_,e,Nat.le_refl _⟩
 refine wpList_append_grows w hgd s x t ho 5 i z 1 1 ht hi hz hsize hby hzs (by decide) (some ⟨g',0,none⟩) L.length L.length (L.flatMap encB) hs (by intro e; cases e) (by rw [flatMap_length encB_length]) ?_ ⟨g,0,none⟩ 1 c (encB y) hx rfl hcs (encB_one y) (by omega) (by simp only [maxLen]; omega) (by omega) ?_
 ·intro b hb2 j u hu
  injection hb2 with hb2
  subst hb2
  rw [addr_add,Nat.zero_add]
  exact hc j u hu
 intro v' w' hown' hg
 have hO:Own encB 1 5 w' w.heap.size v' (L++[y]):=by
  unfold Own
  rw [List.length_append,List.flatMap_append]
  simpa using hown'
 refine h v' w' (hO.lower hbase) ⟨hg.os,hg.tape,hg.output,hg.size,fun k hk _ => hg.block k hk (by simp)⟩ ?_
 rcases hown'.2 with ⟨_,h0⟩ | ⟨g2,cap,cur,rfl,h2,_⟩
 ·omega
 exact .inr ⟨g2,rfl,h2⟩
theorem strCells_bytes (s:ByteArray):Lib.strCells s = (al s).flatMap encB:=by
 unfold Lib.strCells al
 rw [List.flatMap_map]
 unfold encB
 rw [<- List.map_eq_flatMap]
theorem wpList_str {P:Program} (w:World) {ops:Array Oper} {rest:List Oper} {o:Oper} {a:Act} {Q:Exit→Act→World→Prop}
  (hgd:o.guard = none) (sl x:Operand) (t u:TypeId)
  (ho:o.op = .call { callee:=.builtin .append,args:=#[sl,x],argTypes:=#[t,u] })
  (B:Nat) (i:TypeInfo) (ht:P.underlying t = some (.slice 5)) (hu:P.underlying u = some .string) (hi:P.info? 5 = some i) (hz:i.zero = some (.int .u8 0))
  (hsize:i.size = 1) (hby:i.bytes = 1)
  (v:Value) (L:List Nat) (hs:a.eval sl = v) (hown:Own encB 1 5 w B v L) (s:ByteArray) (hx:a.eval x = .string s)
  (hlen:L.length + s.size≤1099511627776) (hbase:B≤w.heap.size)
  (h:∀ v' w',Own encB 1 5 w' B v' (L++al s)→w.grownBy w' v.ownBlock→(v'.ownBlock = v.ownBlock∨∃ g,v'.ownBlock = some g∧w.heap.size≤g)→wpList P ops Q rest (a.put o.dst v') w'):wpList P ops Q (o::rest) a w:=by
 refine wpList_plain hgd fun K hK => ?_
 have hm:L.length + s.size≤maxLen:=by simp only [maxLen]; omega
 obtain ⟨v',w',hr,h2,h3,_⟩:=Lib.run_append_own_string (P:=P) w B t u o.type 5 i ht hu hi hz hsize hby v L.length (L.flatMap encB) hown s hm (by omega) hbase
 have hat:v'.ownBlock = v.ownBlock∨∃ g,v'.ownBlock = some g∧w.heap.size≤g:=by
  have hown':w.ownsRow B 5 1 v L.length (L.flatMap encB):=hown
  rcases hown'.2 with ⟨rfl,h0⟩ | ⟨g,cap,cur,rfl,hbg,hg,hnc,hcm,hcs,htake⟩
  ·have hL:L = []:=List.eq_nil_of_length_eq_zero h0
   subst hL
   obtain ⟨v2,w2,hr2,k2,_,_⟩:=Lib.run_append_own_string (P:=P) w w.heap.size t u o.type 5 i ht hu hi hz hsize hby (.slice none 0 0) 0 [] (World.ownsRow_nil w _ 5 1) s (by simpa using hm) (by simp at hlen; omega) (Nat.le_refl _)
   have hr':=hr.symm.trans hr2
   injection hr' with e1 e2
   subst e1
   rcases k2.2 with ⟨rfl,_⟩ | ⟨g,cap,cur,rfl,hb,_⟩
   ·exact .inl rfl
   exact .inr ⟨g,rfl,hb⟩
  by_cases hroom:L.length + s.size≤cap
  ·have hr2:=Lib.run_append_room_string (P:=P) w t u o.type 5 i ht hu hi hsize g L.length cap cur hg s hroom (by omega)
   have hr':=hr.symm.trans hr2
   injection hr' with e1 e2
   subst e1
   exact .inl rfl
  have hr2:=Lib.run_append_grow_string (P:=P) w t u o.type 5 i (.int .u8 0) ht hu hi hz ⟨g,0,none⟩ L.length cap (L.flatMap encB) (by rw [flatMap_length encB_length,hsize]) (hown'.cells (g:=g) rfl) s (by omega) (by omega) (by rw [hby]; exact growslice_fits (by omega) (by omega))
  have hr':=hr.symm.trans hr2
  injection hr' with e1 e2
  subst e1
  exact .inr ⟨_,rfl,Nat.le_refl _⟩
 unfold Oper.wp execOp
 simp only [ho,resolve,invoke,builtin,Sem.run_bind,Sem.run_pure,Result.andThen_ok,List.map_toArray,List.map_cons,List.map_nil,hs,hx,hr]
 refine hK _ _ (h v' w' ?_ h3 hat)
 unfold Own
 rw [List.length_append,List.flatMap_append,aE,<- strCells_bytes]
 exact h2
end Go.Proofs.YtmhhcfceikcfbaaGreat
namespace Go.Proofs.YtmhhcfceikcfbaaGreat
open Go.RowKit
set_option maxRecDepth 100000
set_option maxHeartbeats 4000000
abbrev Rp (α:Type):=World→(Nat→Prop)→List Value→α→Prop
def Slv {α:Type} (R:Rp α) (sz:Nat) (w:World) (G:Nat→Prop) (v:Value) (l:List α):Prop :=
 ∃ A c,v = .slice A l.length c∧l.length≤c∧c≤maxLen∧(0 < l.length→∃ b o,A = some ⟨b,o,none⟩∧G b∧b < w.heap.size ∧
  ∀ (i:Nat) (x:α),l[i]? = some x→∃ vs:List Value,vs.length = sz∧R w G vs x∧∀ (j:Nat) (u:Value),vs[j]? = some u→w.cell? ⟨b,o + i * sz + j,none⟩ = some u)
def Stb {α:Type} (R:Rp α):Prop:=∀ (w w':World) (G G':Nat→Prop) (vs:List Value) (x:α),(∀ b,G b→G' b)→(∀ b,G b→b < w.heap.size→w'.heap[b]? = w.heap[b]?)→R w G vs x→R w' G' vs x
theorem heap_lt_of_eq {w w':World} {b:Nat} (hb:b < w.heap.size) (h:w'.heap[b]? = w.heap[b]?):b < w'.heap.size:=by
 rw [Array.getElem?_eq_getElem hb] at h
 exact (Array.getElem?_eq_some_iff.1 h).1
theorem Slv.stb {α:Type} {R:Rp α} {sz:Nat} (hR:Stb R) {w w':World} {G G':Nat→Prop} {v:Value} {l:List α} (hG:∀ b,G b→G' b) (hb:∀ b,G b→b < w.heap.size→w'.heap[b]? = w.heap[b]?) (h:Slv R sz w G v l):Slv R sz w' G' v l:=by
 obtain ⟨A,c,rfl,h1,h2,h3⟩:=h
 refine ⟨A,c,rfl,h1,h2,fun hn => ?_⟩
 obtain ⟨b,o,rfl,hg,hlt,hc⟩:=h3 hn
 have hbb:=hb b hg hlt
 refine ⟨b,o,rfl,hG b hg,heap_lt_of_eq hlt hbb,fun i x hx => ?_⟩
 obtain ⟨vs,k1,k2,k3⟩:=hc i x hx
 exact ⟨vs,k1,hR w w' G G' vs x hG hb k2,fun j u hu => (World.cell?_of_block (a:=⟨b,o + i * sz + j,none⟩) hbb).trans (k3 j u hu)⟩
theorem Slv.nil {α:Type} {R:Rp α} {sz:Nat} (w:World) (G:Nat→Prop):Slv R sz w G (.slice none 0 0) ([]:List α):=⟨none,0,rfl,by simp,by simp [maxLen],fun h => by simp at h⟩
theorem Slv.at {α:Type} {R:Rp α} {sz:Nat} {w:World} {G:Nat→Prop} {A:Option Addr} {n c:Nat} {l:List α} (h:Slv R sz w G (.slice A n c) l) (k:Nat) (x:α) (hk:l[k]? = some x) :
  ∃ b o vs,A = some ⟨b,o,none⟩∧G b∧b < w.heap.size∧vs.length = sz∧R w G vs x∧∀ (j:Nat) (u:Value),vs[j]? = some u→w.cell? ⟨b,o + k * sz + j,none⟩ = some u:=by
 obtain ⟨A',c',hv,h1,h2,h3⟩:=h
 injection hv with e1 e2 e3
 subst e1 e2 e3
 obtain ⟨b,o,rfl,hg,hb,hc⟩:=h3 (by have:=(List.getElem?_eq_some_iff.1 hk).1; omega)
 obtain ⟨vs,k1,k2,k3⟩:=hc k x hk
 exact ⟨b,o,vs,rfl,hg,hb,k1,k2,k3⟩
theorem Slv.shape {α:Type} {R:Rp α} {sz:Nat} {w:World} {G:Nat→Prop} {v:Value} {l:List α} (h:Slv R sz w G v l):∃ A c,v = .slice A l.length c∧l.length≤c∧c≤maxLen:=by
 obtain ⟨A,c,rfl,h1,h2,h3⟩:=h
 exact ⟨A,c,rfl,h1,h2⟩
def twoP:Rp Two:=fun _ _ vs x => vs = [.int .i64 x.1,.int .i64 x.2]∧twoD x
def layP:Rp Lay:=fun _ _ vs x => vs = [.int .i64 x.1,.int .i64 x.2.1,.int .i64 x.2.2.1,.bool x.2.2.2]∧layD x
def hdP:Rp Hd:=fun w G vs x => ∃ pv dv lv,vs = [pv,.int .i64 x.2.1,.int .i64 x.2.2.1,dv,lv]∧I64 x.2.1∧I64 x.2.2.1∧Slv twoP 2 w G pv x.1∧Slv twoP 2 w G dv x.2.2.2.1∧Slv layP 4 w G lv x.2.2.2.2
def lvlP:Rp Lvl:=fun _ _ vs x => vs = [.int .i64 x.1,.int .i64 x.2.1,.string x.2.2.1,.int .i64 x.2.2.2]∧lvlD x
def styP:Rp Sty:=fun w G vs x => ∃ pv,vs = [.int .i64 x.1,.int .i64 x.2.1,.string x.2.2.1,.int .i64 x.2.2.2.1,.int .i64 x.2.2.2.2.1,pv]∧(I64 x.1∧I64 x.2.1∧szD x.2.2.1∧I64 x.2.2.2.1∧I64 x.2.2.2.2.1)∧Slv twoP 2 w G pv x.2.2.2.2.2
def lstP:Rp Lst:=fun w G vs x => ∃ pv,vs = [.int .i64 x.1,pv]∧I64 x.1∧Slv lvlP 4 w G pv x.2
def cmtP:Rp Cmt:=fun _ _ vs x => vs = [.int .i64 x.1,.int .i64 x.2.1,.string x.2.2.1,.int .i64 x.2.2.2.1,.string x.2.2.2.2.1,.bool x.2.2.2.2.2]∧cmtD x
def vrP:Rp Vr:=fun _ _ vs x => vs = [.string x.1,.string x.2]∧vrD x
def revP:Rp Rev:=fun _ _ vs x => vs = [.int .i64 x.1,.string x.2.1,.int .i64 x.2.2]∧revD x
section
variable {α:Type}
def ceP (R:Rp α):Rp (Int × Hd × List α):=fun w G vs x => ∃ h0 h1 h2 h3 h4 fv,vs = [.int .i64 x.1,h0,h1,h2,h3,h4,fv]∧I64 x.1∧hdP w G [h0,h1,h2,h3,h4] x.2.1∧Slv R 11 w G fv x.2.2
def rwP (R:Rp α):Rp (Hd × List (Int × Hd × List α)):=fun w G vs x => ∃ h0 h1 h2 h3 h4 cv,vs = [h0,h1,h2,h3,h4,cv]∧hdP w G [h0,h1,h2,h3,h4] x.1∧Slv (ceP R) 7 w G cv x.2
def isP (R:Rp α):Rp (ItS α):=fun w G vs x => ∃ h0 h1 h2 h3 h4 fv rv,vs = [.int .i64 x.1,.int .i64 x.2.1,.int .i64 x.2.2.1,.string x.2.2.2.1,h0,h1,h2,h3,h4,fv,rv]∧(I64 x.1∧I64 x.2.1∧I64 x.2.2.1∧szD x.2.2.2.1) ∧
 hdP w G [h0,h1,h2,h3,h4] x.2.2.2.2.1∧Slv R 11 w G fv x.2.2.2.2.2.1∧Slv (rwP R) 6 w G rv x.2.2.2.2.2.2
end
def itP:(n:Nat)→Rp (It n)
 | 0 => fun _ _ _ x => Empty.elim x
 | n + 1 => isP (itP n)
theorem am:Stb twoP:=fun _ _ _ _ _ _ _ _ h => h
theorem bD:Stb layP:=fun _ _ _ _ _ _ _ _ h => h
theorem bH:Stb lvlP:=fun _ _ _ _ _ _ _ _ h => h
theorem aY:Stb cmtP:=fun _ _ _ _ _ _ _ _ h => h
theorem stb_vr:Stb vrP:=fun _ _ _ _ _ _ _ _ h => h
theorem bg:Stb revP:=fun _ _ _ _ _ _ _ _ h => h
theorem ay:Stb hdP:=by
 rintro w w' G G' vs x hG hb ⟨pv,dv,lv,e,i1,i2,h1,h2,h3⟩
 exact ⟨pv,dv,lv,e,i1,i2,h1.stb am hG hb,h2.stb am hG hb,h3.stb bD hG hb⟩
theorem aF:Stb styP:=by
 rintro w w' G G' vs x hG hb ⟨pv,e,i1,h1⟩
 exact ⟨pv,e,i1,h1.stb am hG hb⟩
theorem aL:Stb lstP:=by
 rintro w w' G G' vs x hG hb ⟨pv,e,i1,h1⟩
 exact ⟨pv,e,i1,h1.stb bH hG hb⟩
section
variable {α:Type} {R:Rp α}
theorem bI (hR:Stb R):Stb (ceP R):=by
 rintro w w' G G' vs x hG hb ⟨h0,h1,h2,h3,h4,fv,e,i1,k1,k2⟩
 exact ⟨h0,h1,h2,h3,h4,fv,e,i1,ay _ _ _ _ _ _ hG hb k1,k2.stb hR hG hb⟩
theorem bs (hR:Stb R):Stb (rwP R):=by
 rintro w w' G G' vs x hG hb ⟨h0,h1,h2,h3,h4,fv,e,k1,k2⟩
 exact ⟨h0,h1,h2,h3,h4,fv,e,ay _ _ _ _ _ _ hG hb k1,k2.stb (bI hR) hG hb⟩
theorem stb_is (hR:Stb R):Stb (isP R):=by
 rintro w w' G G' vs x hG hb ⟨h0,h1,h2,h3,h4,fv,rv,e,i1,k1,k2,k3⟩
 exact ⟨h0,h1,h2,h3,h4,fv,rv,e,i1,ay _ _ _ _ _ _ hG hb k1,k2.stb hR hG hb,k3.stb (bs hR) hG hb⟩
end
theorem aV:∀ n,Stb (itP n)
 | 0 => fun _ _ _ _ _ x => Empty.elim x
 | n + 1 => stb_is (aV n)
def One {α:Type} (R:Rp α):Prop:=∀ (w:World) (G:Nat→Prop) (vs:List Value) (x:α),R w G vs x→∀ u∈vs,u.oneCell' = true
theorem Slv.one {α:Type} {R:Rp α} {sz:Nat} {w:World} {G:Nat→Prop} {v:Value} {l:List α} (h:Slv R sz w G v l):v.oneCell' = true:=by
 obtain ⟨A,c,rfl,_,_⟩:=h.shape
 rfl
theorem one_two:One twoP:=by
 rintro w G vs x ⟨rfl,_⟩ u hu
 simp only [List.mem_cons,List.not_mem_nil,or_false] at hu
 rcases hu with rfl | rfl <;> rfl
theorem one_lay:One layP:=by
 rintro w G vs x ⟨rfl,_⟩ u hu
 simp only [List.mem_cons,List.not_mem_nil,or_false] at hu
 rcases hu with rfl | rfl | rfl | rfl <;> rfl
theorem one_lvl:One lvlP:=by
 rintro w G vs x ⟨rfl,_⟩ u hu
 simp only [List.mem_cons,List.not_mem_nil,or_false] at hu
 rcases hu with rfl | rfl | rfl | rfl <;> rfl
theorem one_cmt:One cmtP:=by
 rintro w G vs x ⟨rfl,_⟩ u hu
 simp only [List.mem_cons,List.not_mem_nil,or_false] at hu
 rcases hu with rfl | rfl | rfl | rfl | rfl | rfl <;> rfl
theorem one_vr:One vrP:=by
 rintro w G vs x ⟨rfl,_⟩ u hu
 simp only [List.mem_cons,List.not_mem_nil,or_false] at hu
 rcases hu with rfl | rfl <;> rfl
theorem one_rev:One revP:=by
 rintro w G vs x ⟨rfl,_⟩ u hu
 simp only [List.mem_cons,List.not_mem_nil,or_false] at hu
 rcases hu with rfl | rfl | rfl <;> rfl
theorem one_hd:One hdP:=by
 rintro w G vs x ⟨pv,dv,lv,rfl,_,_,h1,h2,h3⟩ u hu
 simp only [List.mem_cons,List.not_mem_nil,or_false] at hu
 rcases hu with rfl | rfl | rfl | rfl | rfl
 ·exact h1.one
 ·rfl
 ·rfl
 ·exact h2.one
 exact h3.one
theorem one_sty:One styP:=by
 rintro w G vs x ⟨pv,rfl,_,h1⟩ u hu
 simp only [List.mem_cons,List.not_mem_nil,or_false] at hu
 rcases hu with rfl | rfl | rfl | rfl | rfl | rfl
 ·rfl
 ·rfl
 ·rfl
 ·rfl
 ·rfl
 exact h1.one
theorem one_lst:One lstP:=by
 rintro w G vs x ⟨pv,rfl,_,h1⟩ u hu
 simp only [List.mem_cons,List.not_mem_nil,or_false] at hu
 rcases hu with rfl | rfl
 ·rfl
 exact h1.one
section
variable {α:Type} {R:Rp α}
theorem one_ce:One (ceP R):=by
 rintro w G vs x ⟨h0,h1,h2,h3,h4,fv,rfl,_,k1,k2⟩ u hu
 rcases List.mem_cons.1 hu with rfl | hu
 ·rfl
 rcases List.mem_append.1 (show u∈[h0,h1,h2,h3,h4]++[fv] from hu) with hu | hu
 ·exact one_hd _ _ _ _ k1 u hu
 rw [List.mem_singleton.1 hu]; exact k2.one
theorem one_rw:One (rwP R):=by
 rintro w G vs x ⟨h0,h1,h2,h3,h4,fv,rfl,k1,k2⟩ u hu
 rcases List.mem_append.1 (show u∈[h0,h1,h2,h3,h4]++[fv] from hu) with hu | hu
 ·exact one_hd _ _ _ _ k1 u hu
 rw [List.mem_singleton.1 hu]; exact k2.one
theorem one_is:One (isP R):=by
 rintro w G vs x ⟨h0,h1,h2,h3,h4,fv,rv,rfl,_,k1,k2,k3⟩ u hu
 rcases List.mem_append.1 (show u∈[Value.int .i64 x.1,.int .i64 x.2.1,.int .i64 x.2.2.1,.string x.2.2.2.1]++([h0,h1,h2,h3,h4]++[fv,rv]) from hu) with hu | hu
 ·simp only [List.mem_cons,List.not_mem_nil,or_false] at hu
  rcases hu with rfl | rfl | rfl | rfl <;> rfl
 rcases List.mem_append.1 hu with hu | hu
 ·exact one_hd _ _ _ _ k1 u hu
 simp only [List.mem_cons,List.not_mem_nil,or_false] at hu
 rcases hu with rfl | rfl
 ·exact k2.one
 exact k3.one
end
theorem one_it:∀ n,One (itP n)
 | 0 => fun _ _ _ x => Empty.elim x
 | _ + 1 => one_is
theorem modify_push {α:Type} (h:Array α) (a b:α) (f:α→α) (hf:f a = b):(h.push a).modify h.size f = h.push b:=by
 apply Array.ext
 ·simp
 intro i h1 h2
 rw [Array.getElem_modify,Array.getElem_push,Array.getElem_push]
 split
 ·rename_i e
  subst e
  simp [hf]
 rename_i e
 have:i < h.size:=by
  have:i < h.size + 1:=by simpa using h2
  omega
 simp [this]
theorem aC (w:World) (old cells:Array Value) (t:TypeId):(w.alloc (.cells old t)).setRow w.heap.size cells = w.alloc (.cells cells t):=by
 unfold World.setRow World.alloc
 exact congrArg (fun h => ({ w with heap:=h }:World)) (modify_push w.heap (.cells old t) (.cells cells t) (fun | .cells _ elem frozen => .cells cells elem frozen | o => o) rfl)
theorem Slv.below {α:Type} {R:Rp α} {sz:Nat} (hR:Stb R) {w w':World} {G:Nat→Prop} {v:Value} {l:List α} {B:Nat} (h:Slv R sz w G v l) (hG:∀ b,G b→b < B) (hb:Below B w w'):Slv R sz w' G v l :=
 h.stb hR (fun _ h => h) (fun b hg _ => hb.block b (hG b hg))
end Go.Proofs.YtmhhcfceikcfbaaGreat
