/- Words for the closures and readers of records. -/
import Derived.Deep.CutBlock
import Derived.Test.YtmhhcfceikcfbaaGreatDcR6
import Derived.Test.YtmhhcfceikcfbaaGreatDcSq
namespace Go.Proofs.YtmhhcfceikcfbaaGreat
open Go.RowKit
set_option maxRecDepth 100000
set_option maxHeartbeats 4000000
def Since (a0:Nat) (w:World):Nat→Prop:=fun b => a0≤b∧b < w.heap.size
theorem Stb.grow {α:Type} {R:Rp α} (hR:Stb R) {a0 q:Nat} {wi w':World} {vs:List Value} {x:α} (hg:wi.grownBy w' (some q)) (hq:q < a0) (h:R wi (Since a0 wi) vs x):R w' (Since a0 w') vs x :=
 hR _ _ _ _ _ _ (fun b hb => ⟨hb.1,Nat.lt_of_lt_of_le hb.2 hg.size⟩) (fun b hb hlt => hg.block b hlt (fun e => by injection e with e; have:=hb.1; omega)) h
theorem Slv.grow {α:Type} {R:Rp α} {sz:Nat} (hR:Stb R) {a0 q:Nat} {wi w':World} {v:Value} {l:List α} (h:Slv R sz wi (Since a0 wi) v l) (hg:wi.grownBy w' (some q)) (hq:q < a0):Slv R sz w' (Since a0 w') v l :=
 h.stb hR (fun b hb => ⟨hb.1,Nat.lt_of_lt_of_le hb.2 hg.size⟩) (fun b hb hlt => hg.block b hlt (fun e => by injection e with e; have:=hb.1; omega))
theorem Slv.since {α:Type} {R:Rp α} {sz:Nat} (hR:Stb R) {a0 a1:Nat} {w:World} {v:Value} {l:List α} (h:Slv R sz w (fun b => a1≤b∧b < w.heap.size) v l) (ha:a0≤a1):Slv R sz w (Since a0 w) v l :=
 h.stb hR (fun _ hb => ⟨Nat.le_trans ha hb.1,hb.2⟩) (fun _ _ _ => rfl)
theorem Stb.since {α:Type} {R:Rp α} (hR:Stb R) {a0 a1:Nat} {w:World} {vs:List Value} {x:α} (h:R w (fun b => a1≤b∧b < w.heap.size) vs x) (ha:a0≤a1):R w (Since a0 w) vs x :=
 hR _ _ _ _ _ _ (fun _ hb => ⟨Nat.le_trans ha hb.1,hb.2⟩) (fun _ _ _ => rfl) h
theorem Slv.drew {α:Type} {R:Rp α} {sz:Nat} (hR:Stb R) {a0:Nat} {w:World} {v:Value} {l:List α} (h:Slv R sz w (Since a0 w) v l):Slv R sz w.drew (Since a0 w.drew) v l :=
 Slv.stb (w:=w) (w':=w.drew) (G:=Since a0 w) (G':=Since a0 w.drew) hR (fun _ hb => hb) (fun _ _ _ => rfl) h
theorem Stb.drew {α:Type} {R:Rp α} (hR:Stb R) {a0:Nat} {w:World} {vs:List Value} {x:α} (h:R w (Since a0 w) vs x):R w.drew (Since a0 w.drew) vs x :=
 hR w w.drew (Since a0 w) (Since a0 w.drew) vs x (fun _ hb => hb) (fun _ _ _ => rfl) h
structure Inv (E ty r c g:Nat) (s:ByteArray) (w:World) (a0:Nat) (k:Nat) (e:Int) (cur:Array Value) (wi:World):Prop where
 rdr:Rdr ty r s k e wi
 le:k≤s.size
 blk:wi.heap[g]? = some (.cells cur E (0,0))
 cap:wi.cell? ⟨c,0,none⟩ = some (.pointer (some ⟨r,0,none⟩))
 grown:w.grownBy wi (some r)
 gr:g≠r
 cr:c≠r
 cg:c≠g
 gw:w.heap.size≤g
 ga:g < a0
 ra:r < a0
 aw:a0≤wi.heap.size
section
variable {E ty r c g a0 k k':Nat} {s:ByteArray} {w wi w':World} {e e':Int} {cur new:Array Value}
theorem Inv.call (h:Inv E ty r c g s w a0 k e cur wi) (hr:Rdr ty r s k' e' w') (hk:k'≤s.size) (hg:wi.grownBy w' (some r)):Inv E ty r c g s w a0 k' e' cur w' :=
 ⟨hr,hk,blk_over hg h.blk h.gr,aI hg h.cap h.cr,aD h.grown hg,h.gr,h.cr,h.cg,h.gw,h.ga,h.ra,Nat.le_trans h.aw hg.size⟩
theorem Inv.store (h:Inv E ty r c g s w a0 k e cur wi) (hb:w'.heap[g]? = some (.cells new E (0,0))) (hg:wi.grownBy w' (some g)):Inv E ty r c g s w a0 k e new w':=by
 refine ⟨(hg.block r (ac h.rdr) (fun q => h.gr (by injection q with q; exact q.symm))).trans h.rdr,h.le,hb,aI hg h.cap h.cg,?_,h.gr,h.cr,h.cg,h.gw,h.ga,h.ra,Nat.le_trans h.aw hg.size⟩
 refine ⟨hg.os.trans h.grown.os,hg.tape.trans h.grown.tape,hg.output.trans h.grown.output,Nat.le_trans h.grown.size hg.size,fun i hi hn => ?_⟩
 refine (hg.block i (Nat.lt_of_lt_of_le hi h.grown.size) (fun q => ?_)).trans (h.grown.block i hi hn)
 injection q with q
 have:=h.gw
 omega
theorem Inv.drew (h:Inv E ty r c g s w a0 k e cur wi):Inv E ty r c g s w a0 k e cur wi.drew :=
 ⟨h.rdr,h.le,h.blk,h.cap,bE h.grown 1,h.gr,h.cr,h.cg,h.gw,h.ga,h.ra,h.aw⟩
end
structure InvN (E ty r g:Nat) (s:ByteArray) (w:World) (a0:Nat) (k:Nat) (e:Int) (cur:Array Value) (wi:World):Prop where
 rdr:Rdr ty r s k e wi
 le:k≤s.size
 blk:wi.heap[g]? = some (.cells cur E (0,0))
 grown:w.grownBy wi (some r)
 gr:g≠r
 gw:w.heap.size≤g
 ga:g < a0
 ra:r < a0
 aw:a0≤wi.heap.size
section
variable {E ty r g a0 k k':Nat} {s:ByteArray} {w wi w':World} {e e':Int} {cur new:Array Value}
theorem InvN.call (h:InvN E ty r g s w a0 k e cur wi) (hr:Rdr ty r s k' e' w') (hk:k'≤s.size) (hg:wi.grownBy w' (some r)):InvN E ty r g s w a0 k' e' cur w' :=
 ⟨hr,hk,blk_over hg h.blk h.gr,aD h.grown hg,h.gr,h.gw,h.ga,h.ra,Nat.le_trans h.aw hg.size⟩
theorem InvN.store (h:InvN E ty r g s w a0 k e cur wi) (hb:w'.heap[g]? = some (.cells new E (0,0))) (hg:wi.grownBy w' (some g)):InvN E ty r g s w a0 k e new w':=by
 refine ⟨(hg.block r (ac h.rdr) (fun q => h.gr (by injection q with q; exact q.symm))).trans h.rdr,h.le,hb,?_,h.gr,h.gw,h.ga,h.ra,Nat.le_trans h.aw hg.size⟩
 refine ⟨hg.os.trans h.grown.os,hg.tape.trans h.grown.tape,hg.output.trans h.grown.output,Nat.le_trans h.grown.size hg.size,fun i hi hn => ?_⟩
 refine (hg.block i (Nat.lt_of_lt_of_le hi h.grown.size) (fun q => ?_)).trans (h.grown.block i hi hn)
 injection q with q
 have:=h.gw
 omega
theorem InvN.drew (h:InvN E ty r g s w a0 k e cur wi):InvN E ty r g s w a0 k e cur wi.drew :=
 ⟨h.rdr,h.le,h.blk,bE h.grown 1,h.gr,h.gw,h.ga,h.ra,h.aw⟩
end
theorem bg {α:Type} {p:Rd α} {s:ByteArray} {k k' n:Nat} {e e':Int} {x:α} (h:e = 0→s.size - k < n) (g:Res p s k e x k' e'):e' = 0→s.size - k' < n:=by
 intro he
 subst he
 have h1:=g.le
 have h2:=h g.ok0.1
 omega
theorem sz3:(Tryz.prog.info? 3).map (·.size) = some 1:=by kernel_rfl
theorem sz4:(Tryz.prog.info? 4).map (·.size) = some 1:=by kernel_rfl
theorem sz9:(Tryz.prog.info? 9).map (·.size) = some 1:=by kernel_rfl
theorem sz33:(Tryz.prog.info? 33).map (·.size) = some 1:=by kernel_rfl
theorem sz34:(Tryz.prog.info? 34).map (·.size) = some 1:=by kernel_rfl
theorem sz40:(Tryz.prog.info? 40).map (·.size) = some 5:=by kernel_rfl
theorem sz51:(Tryz.prog.info? 51).map (·.size) = some 1:=by kernel_rfl
theorem sz66:(Tryz.prog.info? 66).map (·.size) = some 1:=by kernel_rfl
theorem one1 {v:Value} (h:v.oneCell' = true):∀ u∈[v],u.oneCell' = true:=by
 intro u hu
 rw [List.mem_singleton.1 hu]
 exact h
end Go.Proofs.YtmhhcfceikcfbaaGreat
namespace Go.Proofs.YtmhhcfceikcfbaaGreat
open Go.RowKit
set_option maxRecDepth 100000
set_option maxHeartbeats 4000000
def LstI {α:Type} (R:Rp α) (sz:Nat) (E:TypeId) (base:Nat) (v:Value) (l:List α) (w:World):Prop :=
 ∃ L:List (Cel sz),Own Cel.val sz E w base v L∧L.length = l.length∧∀ (j:Nat) (x:α),l[j]? = some x→∃ vs:Cel sz,L[j]? = some vs∧∃ G:Nat→Prop,(∀ b,G b→base≤b∧b < w.heap.size∧v.ownBlock≠some b)∧R w G vs.val x
section
variable {α:Type} {R:Rp α} {sz:Nat} {E:TypeId} {base:Nat} {v:Value} {l:List α} {wi w':World}
theorem LstI.nil (R:Rp α) (sz:Nat) (E:TypeId) (base:Nat) (w:World):LstI R sz E base (.slice none 0 0) [] w :=
 ⟨[],Own.nil _ _,rfl,fun j x h => by simp at h⟩
theorem LstI.own_ge (h:LstI R sz E base v l wi) (g:Nat) (hg:v.ownBlock = some g):base≤g∧g < wi.heap.size:=by
 obtain ⟨L,hown,_,_⟩:=h
 exact hown.base_le hg
theorem LstI.grow (hR:Stb R) (h:LstI R sz E base v l wi) {q:Nat} (hg:wi.grownBy w' (some q)) (hq:q < base):LstI R sz E base v l w':=by
 have ho:=h.own_ge
 obtain ⟨L,hown,hL,hel⟩:=h
 refine ⟨L,hown.kept hg (.inr (fun e => by have:=ho q e; omega)),hL,fun j x hx => ?_⟩
 obtain ⟨vs,hvs,G,hG,hRx⟩:=hel j x hx
 refine ⟨vs,hvs,G,fun b hb => ⟨(hG b hb).1,Nat.lt_of_lt_of_le (hG b hb).2.1 hg.size,(hG b hb).2.2⟩,hR _ _ _ _ _ _ (fun _ h => h) (fun b hb hlt => hg.block b hlt (fun e => by injection e with e; have:=(hG b hb).1; omega)) hRx⟩
theorem LstI.slv (hR:Stb R) (h:LstI R sz E base v l wi):Slv R sz wi (fun b => base≤b∧b < wi.heap.size) v l:=by
 obtain ⟨L,hown,hL,hel⟩:=h
 unfold Own at hown
 rcases hown.2 with ⟨rfl,hn⟩ | ⟨g,cap,cur,rfl,hb,hh,hc1,hc2,hc3,hc4⟩
 ·have:l = []:=List.eq_nil_of_length_eq_zero (by omega)
  subst this
  exact Slv.nil _ _
 refine ⟨_,_,by rw [hL],by omega,hc2,fun hn => ⟨g,0,rfl,⟨hb,ac hh⟩,ac hh,fun j x hx => ?_⟩⟩
 obtain ⟨vs,hvs,G,hG,hRx⟩:=hel j x hx
 refine ⟨vs.val,vs.2.1,hR _ _ _ _ _ _ (fun b hb => ⟨(hG b hb).1,(hG b hb).2.1⟩) (fun b _ _ => rfl) hRx,fun q u hu => ?_⟩
 have:=World.ownsRow.cells hown (g:=g) rfl (j * sz + q) u (flatMap_get (fun x => x.2.1) L j vs hvs q u hu)
 rw [addr_add] at this
 rw [<- this]
 congr 2
 omega
theorem LstI.shape (h:LstI R sz E base v l wi):∃ A c,v = .slice A l.length c:=by
 obtain ⟨L,hown,hL,_⟩:=h
 obtain ⟨A,c,rfl,_,_⟩:=hown.shape
 exact ⟨A,c,by rw [hL]⟩
end
theorem LstI.drew {α:Type} {R:Rp α} {sz:Nat} {E:TypeId} {base:Nat} {v:Value} {l:List α} {w:World} (hR:Stb R) (h:LstI R sz E base v l w):LstI R sz E base v l w.drew:=by
 obtain ⟨L,hown,hL,hel⟩:=h
 refine ⟨L,hown.drew,hL,fun j x hx => ?_⟩
 obtain ⟨vs,hvs,G,hG,hRx⟩:=hel j x hx
 exact ⟨vs,hvs,G,hG,hR w w.drew G G _ _ (fun _ h => h) (fun _ _ _ => rfl) hRx⟩
theorem InvN.below {E ty r g a0 a1 k:Nat} {s:ByteArray} {w wi w':World} {e:Int} {cur:Array Value} (h:InvN E ty r g s w a0 k e cur wi) (hb:Below a1 wi w') (ha:a0≤a1):InvN E ty r g s w a0 k e cur w':=by
 have h1:=h.gw
 have h2:=h.ga
 have h3:=h.ra
 exact ⟨(hb.block r (by omega)).trans h.rdr,h.le,(hb.block g (by omega)).trans h.blk,⟨hb.os.trans h.grown.os,hb.tape.trans h.grown.tape,hb.output.trans h.grown.output,Nat.le_trans h.grown.size hb.size,fun i hi hn => (hb.block i (by omega)).trans (h.grown.block i hi hn)⟩,h.gr,h.gw,h.ga,h.ra,Nat.le_trans h.aw hb.size⟩
theorem InvN.alloc {E ty r g a0 k:Nat} {s:ByteArray} {w wi:World} {e:Int} {cur:Array Value} (h:InvN E ty r g s w a0 k e cur wi) (o:Obj):InvN E ty r g s w a0 k e cur (wi.alloc o) :=
 h.below ((Below.refl wi.heap.size wi).alloc (Nat.le_refl _) o) h.aw
end Go.Proofs.YtmhhcfceikcfbaaGreat
