/- Words for the closures and readers of records. -/
import Derived.Deep.CutBlock
import Derived.Test.YtmhhcfceikcfbaaGreatDeR6
import Derived.Test.YtmhhcfceikcfbaaGreatDeSq
namespace Go.Proofs.YtmhhcfceikcfbaaGreat
open Go.RowKit
set_option maxRecDepth 100000
set_option maxHeartbeats 4000000
def aB (a0:Nat) (w:World):Nat→Prop:=fun b => a0≤b∧b < w.heap.size
theorem Stb.grow {α:Type} {R:Rp α} (hR:Stb R) {a0 q:Nat} {wi w':World} {vs:List Value} {x:α} (hg:wi.grownBy w' (some q)) (hq:q < a0) (h:R wi (aB a0 wi) vs x):R w' (aB a0 w') vs x :=
 hR _ _ _ _ _ _ (fun b hb => ⟨hb.1,Nat.lt_of_lt_of_le hb.2 hg.size⟩) (fun b hb hlt => hg.block b hlt (fun e => by injection e with e; have:=hb.1; omega)) h
theorem Slv.grow {α:Type} {R:Rp α} {sz:Nat} (hR:Stb R) {a0 q:Nat} {wi w':World} {v:Value} {l:List α} (h:Slv R sz wi (aB a0 wi) v l) (hg:wi.grownBy w' (some q)) (hq:q < a0):Slv R sz w' (aB a0 w') v l :=
 h.stb hR (fun b hb => ⟨hb.1,Nat.lt_of_lt_of_le hb.2 hg.size⟩) (fun b hb hlt => hg.block b hlt (fun e => by injection e with e; have:=hb.1; omega))
theorem Slv.since {α:Type} {R:Rp α} {sz:Nat} (hR:Stb R) {a0 a1:Nat} {w:World} {v:Value} {l:List α} (h:Slv R sz w (fun b => a1≤b∧b < w.heap.size) v l) (ha:a0≤a1):Slv R sz w (aB a0 w) v l :=
 h.stb hR (fun _ hb => ⟨Nat.le_trans ha hb.1,hb.2⟩) (fun _ _ _ => rfl)
theorem Stb.since {α:Type} {R:Rp α} (hR:Stb R) {a0 a1:Nat} {w:World} {vs:List Value} {x:α} (h:R w (fun b => a1≤b∧b < w.heap.size) vs x) (ha:a0≤a1):R w (aB a0 w) vs x :=
 hR _ _ _ _ _ _ (fun _ hb => ⟨Nat.le_trans ha hb.1,hb.2⟩) (fun _ _ _ => rfl) h
theorem Slv.drew {α:Type} {R:Rp α} {sz:Nat} (hR:Stb R) {a0:Nat} {w:World} {v:Value} {l:List α} (h:Slv R sz w (aB a0 w) v l):Slv R sz w.drew (aB a0 w.drew) v l :=
 Slv.stb (w:=w) (w':=w.drew) (G:=aB a0 w) (G':=aB a0 w.drew) hR (fun _ hb => hb) (fun _ _ _ => rfl) h
theorem Stb.drew {α:Type} {R:Rp α} (hR:Stb R) {a0:Nat} {w:World} {vs:List Value} {x:α} (h:R w (aB a0 w) vs x):R w.drew (aB a0 w.drew) vs x :=
 hR w w.drew (aB a0 w) (aB a0 w.drew) vs x (fun _ hb => hb) (fun _ _ _ => rfl) h
structure Inv (E ty r c g:Nat) (s:ByteArray) (w:World) (a0:Nat) (k:Nat) (e:Int) (cur:Array Value) (wi:World):Prop where
 rdr:Rdr ty r s k e wi
 le:k≤s.size
 blk:wi.heap[g]? = some (.cells cur E (0,0))
 cap:wi.cell? ⟨c,0,none⟩ = some (.pointer (some ⟨r,0,none⟩))
 grown:w.grownBy wi (some r)
 gr:g≠r
 cr:c≠r
 cg:c≠g
 gw:w.heap.size≤g
 ga:g < a0
 ra:r < a0
 aw:a0≤wi.heap.size
section
variable {E ty r c g a0 k k':Nat} {s:ByteArray} {w wi w':World} {e e':Int} {cur new:Array Value}
theorem Inv.call (h:Inv E ty r c g s w a0 k e cur wi) (hr:Rdr ty r s k' e' w') (hk:k'≤s.size) (hg:wi.grownBy w' (some r)):Inv E ty r c g s w a0 k' e' cur w' :=
 ⟨hr,hk,blk_over hg h.blk h.gr,aK hg h.cap h.cr,an h.grown hg,h.gr,h.cr,h.cg,h.gw,h.ga,h.ra,Nat.le_trans h.aw hg.size⟩
theorem Inv.store (h:Inv E ty r c g s w a0 k e cur wi) (hb:w'.heap[g]? = some (.cells new E (0,0))) (hg:wi.grownBy w' (some g)):Inv E ty r c g s w a0 k e new w':=by
 refine ⟨(hg.block r (ae h.rdr) (fun q => h.gr (by injection q with q; exact q.symm))).trans h.rdr,h.le,hb,aK hg h.cap h.cg,?_,h.gr,h.cr,h.cg,h.gw,h.ga,h.ra,Nat.le_trans h.aw hg.size⟩
 refine ⟨hg.os.trans h.grown.os,hg.tape.trans h.grown.tape,hg.output.trans h.grown.output,Nat.le_trans h.grown.size hg.size,fun i hi hn => ?_⟩
 refine (hg.block i (Nat.lt_of_lt_of_le hi h.grown.size) (fun q => ?_)).trans (h.grown.block i hi hn)
 injection q with q
 have:=h.gw
 omega
theorem Inv.drew (h:Inv E ty r c g s w a0 k e cur wi):Inv E ty r c g s w a0 k e cur wi.drew :=
 ⟨h.rdr,h.le,h.blk,h.cap,aZ h.grown 1,h.gr,h.cr,h.cg,h.gw,h.ga,h.ra,h.aw⟩
end
structure InvN (E ty r g:Nat) (s:ByteArray) (w:World) (a0:Nat) (k:Nat) (e:Int) (cur:Array Value) (wi:World):Prop where
 rdr:Rdr ty r s k e wi
 le:k≤s.size
 blk:wi.heap[g]? = some (.cells cur E (0,0))
 grown:w.grownBy wi (some r)
 gr:g≠r
 gw:w.heap.size≤g
 ga:g < a0
 ra:r < a0
 aw:a0≤wi.heap.size
section
variable {E ty r g a0 k k':Nat} {s:ByteArray} {w wi w':World} {e e':Int} {cur new:Array Value}
theorem InvN.call (h:InvN E ty r g s w a0 k e cur wi) (hr:Rdr ty r s k' e' w') (hk:k'≤s.size) (hg:wi.grownBy w' (some r)):InvN E ty r g s w a0 k' e' cur w' :=
 ⟨hr,hk,blk_over hg h.blk h.gr,an h.grown hg,h.gr,h.gw,h.ga,h.ra,Nat.le_trans h.aw hg.size⟩
theorem InvN.store (h:InvN E ty r g s w a0 k e cur wi) (hb:w'.heap[g]? = some (.cells new E (0,0))) (hg:wi.grownBy w' (some g)):InvN E ty r g s w a0 k e new w':=by
 refine ⟨(hg.block r (ae h.rdr) (fun q => h.gr (by injection q with q; exact q.symm))).trans h.rdr,h.le,hb,?_,h.gr,h.gw,h.ga,h.ra,Nat.le_trans h.aw hg.size⟩
 refine ⟨hg.os.trans h.grown.os,hg.tape.trans h.grown.tape,hg.output.trans h.grown.output,Nat.le_trans h.grown.size hg.size,fun i hi hn => ?_⟩
 refine (hg.block i (Nat.lt_of_lt_of_le hi h.grown.size) (fun q => ?_)).trans (h.grown.block i hi hn)
 injection q with q
 have:=h.gw
 omega
theorem InvN.drew (h:InvN E ty r g s w a0 k e cur wi):InvN E ty r g s w a0 k e cur wi.drew :=
 ⟨h.rdr,h.le,h.blk,aZ h.grown 1,h.gr,h.gw,h.ga,h.ra,h.aw⟩
end
theorem aN {α:Type} {p:Rd α} {s:ByteArray} {k k' n:Nat} {e e':Int} {x:α} (h:e = 0→s.size - k < n) (g:Res p s k e x k' e'):e' = 0→s.size - k' < n:=by
 intro he
 subst he
 have h1:=g.le
 have h2:=h g.ok0.1
 omega
theorem sz3:(Tryz.prog.info? 3).map (·.size) = some 1:=by kernel_rfl
theorem sz4:(Tryz.prog.info? 4).map (·.size) = some 1:=by kernel_rfl
theorem sz9:(Tryz.prog.info? 9).map (·.size) = some 1:=by kernel_rfl
theorem sz33:(Tryz.prog.info? 33).map (·.size) = some 1:=by kernel_rfl
theorem sz34:(Tryz.prog.info? 34).map (·.size) = some 1:=by kernel_rfl
theorem sz40:(Tryz.prog.info? 40).map (·.size) = some 5:=by kernel_rfl
theorem sz51:(Tryz.prog.info? 51).map (·.size) = some 1:=by kernel_rfl
theorem sz66:(Tryz.prog.info? 66).map (·.size) = some 1:=by kernel_rfl
theorem one1 {v:Value} (h:v.oneCell' = true):∀ u∈[v],u.oneCell' = true:=by
 intro u hu
 rw [List.mem_singleton.1 hu]
 exact h
end Go.Proofs.YtmhhcfceikcfbaaGreat
namespace Go.Proofs.YtmhhcfceikcfbaaGreat
open Go.RowKit
set_option maxRecDepth 100000
set_option maxHeartbeats 4000000
def LstI {α:Type} (R:Rp α) (sz:Nat) (E:TypeId) (base:Nat) (v:Value) (l:List α) (w:World):Prop :=
 ∃ L:List (Cel sz),Own Cel.val sz E w base v L∧L.length = l.length∧∀ (j:Nat) (x:α),l[j]? = some x→∃ vs:Cel sz,L[j]? = some vs∧∃ G:Nat→Prop,(∀ b,G b→base≤b∧b < w.heap.size∧v.ownBlock≠some b)∧R w G vs.val x
section
variable {α:Type} {R:Rp α} {sz:Nat} {E:TypeId} {base:Nat} {v:Value} {l:List α} {wi w':World}
theorem LstI.nil (R:Rp α) (sz:Nat) (E:TypeId) (base:Nat) (w:World):LstI R sz E base (.slice none 0 0) [] w :=
 ⟨[],Own.nil _ _,rfl,fun j x h => by simp at h⟩
theorem LstI.own_ge (h:LstI R sz E base v l wi) (g:Nat) (hg:v.ownBlock = some g):base≤g∧g < wi.heap.size:=by
 obtain ⟨L,hown,_,_⟩:=h
 exact hown.base_le hg
theorem LstI.grow (hR:Stb R) (h:LstI R sz E base v l wi) {q:Nat} (hg:wi.grownBy w' (some q)) (hq:q < base):LstI R sz E base v l w':=by
 have ho:=h.own_ge
 obtain ⟨L,hown,hL,hel⟩:=h
 refine ⟨L,hown.kept hg (.inr (fun e => by have:=ho q e; omega)),hL,fun j x hx => ?_⟩
 obtain ⟨vs,hvs,G,hG,hRx⟩:=hel j x hx
 refine ⟨vs,hvs,G,fun b hb => ⟨(hG b hb).1,Nat.lt_of_lt_of_le (hG b hb).2.1 hg.size,(hG b hb).2.2⟩,hR _ _ _ _ _ _ (fun _ h => h) (fun b hb hlt => hg.block b hlt (fun e => by injection e with e; have:=(hG b hb).1; omega)) hRx⟩
theorem LstI.slv (hR:Stb R) (h:LstI R sz E base v l wi):Slv R sz wi (fun b => base≤b∧b < wi.heap.size) v l:=by
 obtain ⟨L,hown,hL,hel⟩:=h
 unfold Own at hown
 rcases hown.2 with ⟨rfl,hn⟩ | ⟨g,cap,cur,rfl,hb,hh,hc1,hc2,hc3,hc4⟩
 ·have:l = []:=List.eq_nil_of_length_eq_zero (by omega)
  subst this
  exact Slv.nil _ _
 refine ⟨_,_,by rw [hL],by omega,hc2,fun hn => ⟨g,0,rfl,⟨hb,ae hh⟩,ae hh,fun j x hx => ?_⟩⟩
 obtain ⟨vs,hvs,G,hG,hRx⟩:=hel j x hx
 refine ⟨vs.val,vs.2.1,hR _ _ _ _ _ _ (fun b hb => ⟨(hG b hb).1,(hG b hb).2.1⟩) (fun b _ _ => rfl) hRx,fun q u hu => ?_⟩
 have:=World.ownsRow.cells hown (g:=g) rfl (j * sz + q) u (flatMap_get (fun x => x.2.1) L j vs hvs q u hu)
 rw [addr_add] at this
 rw [<- this]
 congr 2
 omega
theorem LstI.shape (h:LstI R sz E base v l wi):∃ A c,v = .slice A l.length c:=by
 obtain ⟨L,hown,hL,_⟩:=h
 obtain ⟨A,c,rfl,_,_⟩:=hown.shape
 exact ⟨A,c,by rw [hL]⟩
theorem sq_push {Q:Exit→Act→World→Prop} {S:World→Prop} {o:Oper} {r:List (Bool × Oper)} {a:Act} {w2:World} (hR:Stb R) (s x:Operand) (t:TypeId) (bytes a2 c:Nat) (ho:o.op = .call { callee:=.builtin .append,args:=#[s,x],argTypes:=#[t,t] }) (hgd:o.guard = none)
  (ht:Tryz.prog.underlying t = some (.slice E)) (hinfo:(Tryz.prog.info? E).map (fun i => (i.zero.map (·.cells.size),i.size,i.bytes)) = some (some sz,sz,bytes)) (hsz:0 < sz)
  (y:List Value) (xv:α) (hl:LstI R sz E base v l w2) (hv:a.eval s = v) (hy1:y.length = sz) (hy2:∀ u∈y,u.oneCell' = true)
  (hRx:R w2 (aB a2 w2) y xv) (ha2:∀ g,v.ownBlock = some g→g < a2) (hb2:base≤a2) (hbw:base≤w2.heap.size)
  (hx:a.eval x = .slice (some ⟨w2.heap.size,0,none⟩) 1 c) (hbytes:(l.length + 1) * bytes≤140737488355328) (hlen:l.length < 140737488355328)
  (h:∀ v' w',LstI R sz E base v' (l++[xv]) w'→Below base w2 w'→S w'∧wpSq Tryz.prog Q S r (a.put o.dst v') w') :
  wpSq Tryz.prog Q S ((false,o)::r) a (w2.alloc (.cells y.toArray E)):=by
 have hog:=hl.own_ge
 obtain ⟨L,hown,hL,hel⟩:=hl
 obtain ⟨i0,z0,hi,hz0,hz1,hz2,hz3⟩:=bk hinfo
 obtain ⟨yc,hyc⟩:∃ yc:Cel sz,yc.val = y:=⟨⟨y,hy1,hy2⟩,rfl⟩
 refine sq_of_list hgd ?_
 refine aP _ hgd s x t ho base E i0 z0 sz bytes ht hi hz0 hz1 hz2 hz3 hsz (fun x => x.2.1) (fun x => x.2.2) v L hv (hown.alloc _) w2.heap.size c yc hx (fun j u hu => (aa (heap_alloc_new _ _) j).trans (by rw [hyc] at hu; simpa using hu)) (by rw [hL]; exact hbytes) (by rw [hL]; exact hlen) (by simp; omega) ?_
 intro v' w' hown' hgo hat
 have key:∀ b,b < w2.heap.size→v.ownBlock≠some b→w'.heap[b]? = w2.heap[b]?:=fun b h1 h2 =>
  (hgo.block b (by simp; omega) (fun e => h2 e.symm)).trans (Below.heap_alloc _ _ _ h1)
 have hs2:w2.heap.size < w'.heap.size:=by
  have:=hgo.size
  simp at this
  omega
 refine list_done (h v' w' ⟨L++[yc],hown',by simp [hL],?_⟩ ?_)
 ·intro j x' hx'
  rcases Nat.lt_or_ge j l.length with q | q
  ·rw [List.getElem?_append_left q] at hx'
   obtain ⟨vs,hvs,G,hG,hRj⟩:=hel j x' hx'
   refine ⟨vs,by rw [List.getElem?_append_left (by omega)]; exact hvs,G,fun b hb => ?_,hR _ _ _ _ _ _ (fun _ h => h) (fun b hb hlt => key b hlt (hG b hb).2.2) hRj⟩
   obtain ⟨g1,g2,g3⟩:=hG b hb
   refine ⟨g1,by omega,?_⟩
   rcases hat with e | e
   ·rw [e]; exact g3
   rw [e]; intro e2; injection e2 with e3; simp at e3; omega
  have hj:j = l.length:=by
   have:=(List.getElem?_eq_some_iff.1 hx').1
   simp at this
   omega
  subst hj
  have hxx:x' = xv:=by simpa using hx'.symm
  subst hxx
  refine ⟨yc,by rw [<- hL]; simp,aB a2 w2,fun b hb => ?_,hR _ _ _ _ _ _ (fun _ h => h) (fun b hb hlt => key b hlt (fun e => by have:=ha2 b e; have:=hb.1; omega)) (by rw [hyc]; exact hRx)⟩
  refine ⟨Nat.le_trans hb2 hb.1,Nat.lt_trans hb.2 hs2,?_⟩
  rcases hat with e | e
  ·rw [e]; intro e2; have:=ha2 b e2; have:=hb.1; omega
  rw [e]; intro e2; injection e2 with e3; have:=hb.2; simp at e3; omega
 refine ⟨hgo.os,hgo.tape,hgo.output,Nat.le_of_lt hs2,fun b hb => key b (by omega) (fun e => by have:=(hog b e).1; omega)⟩
end
theorem grown_below {B:Nat} {w w1 w':World} {r:Nat} (hg:w.grownBy w1 (some r)) (hb:Below B w1 w') (hB:w.heap.size≤B):w.grownBy w' (some r) :=
 ⟨hb.os.trans hg.os,hb.tape.trans hg.tape,hb.output.trans hg.output,Nat.le_trans hg.size hb.size,fun k hk hr => (hb.block k (Nat.lt_of_lt_of_le hk hB)).trans (hg.block k hk hr)⟩
def Bet (a0 a1:Nat):Nat→Prop:=fun b => a0≤b∧b < a1
theorem Slv.bet {α:Type} {R:Rp α} {sz:Nat} (hR:Stb R) {a0:Nat} {w:World} {v:Value} {l:List α} (h:Slv R sz w (aB a0 w) v l):Slv R sz w (Bet a0 w.heap.size) v l :=
 h.stb hR (fun _ hb => hb) (fun _ _ _ => rfl)
theorem Slv.unbet {α:Type} {R:Rp α} {sz:Nat} (hR:Stb R) {a0 a1:Nat} {w:World} {v:Value} {l:List α} (h:Slv R sz w (Bet a0 a1) v l) (ha:a1≤w.heap.size):Slv R sz w (aB a0 w) v l :=
 h.stb hR (fun _ hb => ⟨hb.1,Nat.lt_of_lt_of_le hb.2 ha⟩) (fun _ _ _ => rfl)
theorem Slv.bet_grow {α:Type} {R:Rp α} {sz:Nat} (hR:Stb R) {a0 a1 q:Nat} {w w':World} {v:Value} {l:List α} (h:Slv R sz w (Bet a0 a1) v l) (hg:w.grownBy w' (some q)) (hq:q < a0):Slv R sz w' (Bet a0 a1) v l :=
 h.stb hR (fun _ hb => hb) (fun b hb hlt => hg.block b hlt (fun e => by injection e with e; have:=hb.1; omega))
theorem Slv.bet_below {α:Type} {R:Rp α} {sz:Nat} (hR:Stb R) {a0 a1:Nat} {w w':World} {v:Value} {l:List α} (h:Slv R sz w (Bet a0 a1) v l) (hb:Below a1 w w'):Slv R sz w' (Bet a0 a1) v l :=
 h.stb hR (fun _ hb => hb) (fun b h2 _ => hb.block b h2.2)
theorem Slv.bet_drew {α:Type} {R:Rp α} {sz:Nat} (hR:Stb R) {a0 a1:Nat} {w:World} {v:Value} {l:List α} (h:Slv R sz w (Bet a0 a1) v l):Slv R sz w.drew (Bet a0 a1) v l :=
 Slv.stb (w:=w) (w':=w.drew) hR (fun _ hb => hb) (fun _ _ _ => rfl) h
theorem LstI.drew {α:Type} {R:Rp α} {sz:Nat} {E:TypeId} {base:Nat} {v:Value} {l:List α} {w:World} (hR:Stb R) (h:LstI R sz E base v l w):LstI R sz E base v l w.drew:=by
 obtain ⟨L,hown,hL,hel⟩:=h
 refine ⟨L,hown.drew,hL,fun j x hx => ?_⟩
 obtain ⟨vs,hvs,G,hG,hRx⟩:=hel j x hx
 exact ⟨vs,hvs,G,hG,hR w w.drew G G _ _ (fun _ h => h) (fun _ _ _ => rfl) hRx⟩
theorem InvN.below {E ty r g a0 a1 k:Nat} {s:ByteArray} {w wi w':World} {e:Int} {cur:Array Value} (h:InvN E ty r g s w a0 k e cur wi) (hb:Below a1 wi w') (ha:a0≤a1):InvN E ty r g s w a0 k e cur w':=by
 have h1:=h.gw
 have h2:=h.ga
 have h3:=h.ra
 exact ⟨(hb.block r (by omega)).trans h.rdr,h.le,(hb.block g (by omega)).trans h.blk,⟨hb.os.trans h.grown.os,hb.tape.trans h.grown.tape,hb.output.trans h.grown.output,Nat.le_trans h.grown.size hb.size,fun i hi hn => (hb.block i (by omega)).trans (h.grown.block i hi hn)⟩,h.gr,h.gw,h.ga,h.ra,Nat.le_trans h.aw hb.size⟩
theorem InvN.alloc {E ty r g a0 k:Nat} {s:ByteArray} {w wi:World} {e:Int} {cur:Array Value} (h:InvN E ty r g s w a0 k e cur wi) (o:Obj):InvN E ty r g s w a0 k e cur (wi.alloc o) :=
 h.below ((Below.refl wi.heap.size wi).alloc (Nat.le_refl _) o) h.aw
end Go.Proofs.YtmhhcfceikcfbaaGreat
