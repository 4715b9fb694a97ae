/- Walks: the readers of lists. -/
import Derived.Deep.CutBlock
import Derived.Laws.ResultCell
import Derived.Test.YtmhhcfceikcfbaaGreatDfR2
import Derived.Test.YtmhhcfceikcfbaaGreatDfSq
import Derived.Test.YtmhhcfceikcfbaaGreatDfW8
namespace Go.Proofs.YtmhhcfceikcfbaaGreat
open Go.RowKit
theorem Res.le {α : Type} {p : Rd α} {s : ByteArray} {k k' : Nat} {e : Int} {x : α} (h : Res p s k e x k' 0) : k ≤ k' := by
 obtain ⟨_, j, _, hk⟩ := h.ok0
 omega
end Go.Proofs.YtmhhcfceikcfbaaGreat
namespace Go.Proofs.YtmhhcfceikcfbaaGreat
open Go.RowKit
/-- What was made since 'a0'. -/
def Since (a0 : Nat) (w : World) : Nat → Prop := fun b => a0 ≤ b ∧ b < w.heap.size
theorem Slv.drew {α : Type} {R : Rp α} {sz : Nat} (hR : Stb R) {a0 : Nat} {w : World} {v : Value} {l : List α} (h : Slv R sz w (Since a0 w) v l) : Slv R sz w.drew (Since a0 w.drew) v l :=
 Slv.stb (w := w) (w' := w.drew) (G := Since a0 w) (G' := Since a0 w.drew) hR (fun _ hb => hb) (fun _ _ _ => rfl) h
theorem Stb.drew {α : Type} {R : Rp α} (hR : Stb R) {a0 : Nat} {w : World} {vs : List Value} {x : α} (h : R w (Since a0 w) vs x) : R w.drew (Since a0 w.drew) vs x :=
 hR w w.drew (Since a0 w) (Since a0 w.drew) vs x (fun _ hb => hb) (fun _ _ _ => rfl) h
/-- Within a reader's walk: the reader, the block of what is read, the captured cell. -/
structure Inv (E ty r c g : Nat) (s : ByteArray) (w : World) (a0 : Nat) (k : Nat) (e : Int) (cur : Array Value) (wi : World) : Prop where
 rdr : Rdr ty r s k e wi
 le : k ≤ s.size
 blk : wi.heap[g]? = some (.cells cur E (0, 0))
 cap : wi.cell? ⟨c, 0, none⟩ = some (.pointer (some ⟨r, 0, none⟩))
 grown : w.grownBy wi (some r)
 gr : g ≠ r
 cr : c ≠ r
 cg : c ≠ g
 gw : w.heap.size ≤ g
 ga : g < a0
 ra : r < a0
 aw : a0 ≤ wi.heap.size
section
variable {E ty r c g a0 k k' : Nat} {s : ByteArray} {w wi w' : World} {e e' : Int} {cur new : Array Value}
theorem Inv.call (h : Inv E ty r c g s w a0 k e cur wi) (hr : Rdr ty r s k' e' w') (hk : k' ≤ s.size) (hg : wi.grownBy w' (some r)) : Inv E ty r c g s w a0 k' e' cur w' :=
 ⟨hr, hk, blk_over hg h.blk h.gr, grown_cell hg h.cap h.cr, grown_trans h.grown hg, h.gr, h.cr, h.cg, h.gw, h.ga, h.ra, Nat.le_trans h.aw hg.size⟩
theorem Inv.store (h : Inv E ty r c g s w a0 k e cur wi) (hb : w'.heap[g]? = some (.cells new E (0, 0))) (hg : wi.grownBy w' (some g)) : Inv E ty r c g s w a0 k e new w' := by
 refine ⟨(hg.block r (lt_of_blk h.rdr) (fun q => h.gr (by injection q with q; exact q.symm))).trans h.rdr, h.le, hb, grown_cell hg h.cap h.cg, ?_, h.gr, h.cr, h.cg, h.gw, h.ga, h.ra, Nat.le_trans h.aw hg.size⟩
 refine ⟨hg.os.trans h.grown.os, hg.tape.trans h.grown.tape, hg.output.trans h.grown.output, Nat.le_trans h.grown.size hg.size, fun i hi hn => ?_⟩
 refine (hg.block i (Nat.lt_of_lt_of_le hi h.grown.size) (fun q => ?_)).trans (h.grown.block i hi hn)
 injection q with q
 have := h.gw
 omega
theorem Inv.drew (h : Inv E ty r c g s w a0 k e cur wi) : Inv E ty r c g s w a0 k e cur wi.drew :=
 ⟨h.rdr, h.le, h.blk, h.cap, grown_drewN h.grown 1, h.gr, h.cr, h.cg, h.gw, h.ga, h.ra, h.aw⟩
end
/-- The same without a captured cell. -/
structure InvN (E ty r g : Nat) (s : ByteArray) (w : World) (a0 : Nat) (k : Nat) (e : Int) (cur : Array Value) (wi : World) : Prop where
 rdr : Rdr ty r s k e wi
 le : k ≤ s.size
 blk : wi.heap[g]? = some (.cells cur E (0, 0))
 grown : w.grownBy wi (some r)
 gr : g ≠ r
 gw : w.heap.size ≤ g
 ga : g < a0
 ra : r < a0
 aw : a0 ≤ wi.heap.size
section
variable {E ty r g a0 k k' : Nat} {s : ByteArray} {w wi w' : World} {e e' : Int} {cur new : Array Value}
theorem InvN.call (h : InvN E ty r g s w a0 k e cur wi) (hr : Rdr ty r s k' e' w') (hk : k' ≤ s.size) (hg : wi.grownBy w' (some r)) : InvN E ty r g s w a0 k' e' cur w' :=
 ⟨hr, hk, blk_over hg h.blk h.gr, grown_trans h.grown hg, h.gr, h.gw, h.ga, h.ra, Nat.le_trans h.aw hg.size⟩
theorem InvN.store (h : InvN E ty r g s w a0 k e cur wi) (hb : w'.heap[g]? = some (.cells new E (0, 0))) (hg : wi.grownBy w' (some g)) : InvN E ty r g s w a0 k e new w' := by
 refine ⟨(hg.block r (lt_of_blk h.rdr) (fun q => h.gr (by injection q with q; exact q.symm))).trans h.rdr, h.le, hb, ?_, h.gr, h.gw, h.ga, h.ra, Nat.le_trans h.aw hg.size⟩
 refine ⟨hg.os.trans h.grown.os, hg.tape.trans h.grown.tape, hg.output.trans h.grown.output, Nat.le_trans h.grown.size hg.size, fun i hi hn => ?_⟩
 refine (hg.block i (Nat.lt_of_lt_of_le hi h.grown.size) (fun q => ?_)).trans (h.grown.block i hi hn)
 injection q with q
 have := h.gw
 omega
theorem InvN.drew (h : InvN E ty r g s w a0 k e cur wi) : InvN E ty r g s w a0 k e cur wi.drew :=
 ⟨h.rdr, h.le, h.blk, grown_drewN h.grown 1, h.gr, h.gw, h.ga, h.ra, h.aw⟩
end
theorem sz3 : (Tryz.prog.info? 3).map (·.size) = some 1 := by kernel_rfl
theorem one1 {v : Value} (h : v.oneCell' = true) : ∀ u ∈ [v], u.oneCell' = true := by
 intro u hu
 rw [List.mem_singleton.1 hu]
 exact h
end Go.Proofs.YtmhhcfceikcfbaaGreat
namespace Go.Proofs.YtmhhcfceikcfbaaGreat
open Go.RowKit
/-- A list of the call's own, whose elements' own blocks lie beside it. -/
def LstI {α : Type} (R : Rp α) (sz : Nat) (E : TypeId) (base : Nat) (v : Value) (l : List α) (w : World) : Prop :=
 ∃ L : List (Cel sz), Own Cel.val sz E w base v L ∧ L.length = l.length ∧ ∀ (j : Nat) (x : α), l[j]? = some x → ∃ vs : Cel sz, L[j]? = some vs ∧ ∃ G : Nat → Prop, (∀ b, G b → base ≤ b ∧ b < w.heap.size ∧ v.ownBlock ≠ some b) ∧ R w G vs.val x
section
variable {α : Type} {R : Rp α} {sz : Nat} {E : TypeId} {base : Nat} {v : Value} {l : List α} {wi w' : World}
theorem LstI.nil (R : Rp α) (sz : Nat) (E : TypeId) (base : Nat) (w : World) : LstI R sz E base (.slice none 0 0) [] w :=
 ⟨[], Own.nil _ _, rfl, fun j x h => by simp at h⟩
theorem LstI.shape (h : LstI R sz E base v l wi) : ∃ A c, v = .slice A l.length c := by
 obtain ⟨L, hown, hL, _⟩ := h
 obtain ⟨A, c, rfl, _, _⟩ := hown.shape
 exact ⟨A, c, by rw [hL]⟩
end
theorem LstI.drew {α : Type} {R : Rp α} {sz : Nat} {E : TypeId} {base : Nat} {v : Value} {l : List α} {w : World} (hR : Stb R) (h : LstI R sz E base v l w) : LstI R sz E base v l w.drew := by
 obtain ⟨L, hown, hL, hel⟩ := h
 refine ⟨L, hown.drew, hL, fun j x hx => ?_⟩
 obtain ⟨vs, hvs, G, hG, hRx⟩ := hel j x hx
 exact ⟨vs, hvs, G, hG, hR w w.drew G G _ _ (fun _ h => h) (fun _ _ _ => rfl) hRx⟩
/-- Over what leaves all blocks below 'a1', the record's own lie below. -/
theorem InvN.below {E ty r g a0 a1 k : Nat} {s : ByteArray} {w wi w' : World} {e : Int} {cur : Array Value} (h : InvN E ty r g s w a0 k e cur wi) (hb : Below a1 wi w') (ha : a0 ≤ a1) : InvN E ty r g s w a0 k e cur w' := by
 have h1 := h.gw
 have h2 := h.ga
 have h3 := h.ra
 exact ⟨(hb.block r (by omega)).trans h.rdr, h.le, (hb.block g (by omega)).trans h.blk, ⟨hb.os.trans h.grown.os, hb.tape.trans h.grown.tape, hb.output.trans h.grown.output, Nat.le_trans h.grown.size hb.size, fun i hi hn => (hb.block i (by omega)).trans (h.grown.block i hi hn)⟩, h.gr, h.gw, h.ga, h.ra, Nat.le_trans h.aw hb.size⟩
theorem InvN.alloc {E ty r g a0 k : Nat} {s : ByteArray} {w wi : World} {e : Int} {cur : Array Value} (h : InvN E ty r g s w a0 k e cur wi) (o : Obj) : InvN E ty r g s w a0 k e cur (wi.alloc o) :=
 h.below ((Below.refl wi.heap.size wi).alloc (Nat.le_refl _) o) h.aw
end Go.Proofs.YtmhhcfceikcfbaaGreat
namespace Go.Proofs.YtmhhcfceikcfbaaGreat
open Go.RowKit
theorem results_row_tmp {P : Program} {fn : Func} {p u : Tmp} {ty : TypeId} (h : fn.results = #[.cell p ty, .tmp u]) (tmps : Array Value) (w : World) (g : Nat) (t : TypeId) (cs : Array Value) (fr : Nat × Nat) (d : TypeDesc) (v2 : Value) (hq : tmps.getD u undef = v2)
  (hp : tmps.getD p undef = .pointer (some ⟨g, 0, none⟩)) (hg : w.heap[g]? = some (.cells cs t fr))
  (hu : P.underlying ty = some d) (hd : (match d with | .struct _ | .array _ _ => true | _ => false) = true) (hi : (P.info? ty).map (·.size) = some cs.size) :
  (results fn tmps).run P w = .ok (.tuple #[.agg cs, v2]) w := by
 rw [results_cell_tmp h, hp, hq]
 have e1 : (asAddr (.pointer (some ⟨g, 0, none⟩))).run P w = .ok ⟨g, 0, none⟩ w := rfl
 rw [e1, Result.andThen_ok, run_loadVar_row w g t ty cs fr d hg hu hd hi, Result.andThen_ok]
theorem whole {α : Type} {e : α → List Nat} {p : Rd α} {d : α → Prop} (h : Fit e p d) {s : ByteArray} {x : α} (hx : p (bytesN s) = .ok x s.size) : e x = bytesN s ∧ mkB (e x) = s := by
 obtain ⟨_, h2, _⟩ := h.read _ x _ (bytesN_lt s) hx
 have h3 : e x = bytesN s := by
  rw [← h2, List.take_of_length_le]
  rw [bytesN_length]
  exact Nat.le_refl _
 refine ⟨h3, bytesN_inj ?_⟩
 rw [h3, bytesN_mkB (bytesN_lt s)]
theorem below_store {B g : Nat} {b c : World} (hB : B ≤ b.heap.size) (hg : b.grownBy c (some g)) (h : B ≤ g) : Below B b c :=
 (Below.refl B b).grown hg hB (fun k hk => by injection hk with hk; omega)
theorem ok_same {α : Type} {p : Rd α} {L : List Nat} {x y : α} {n m : Nat} (h : p L = .ok x n) (g : p L = .ok y m) : y = x := by
 rw [h] at g
 injection g with g1
 exact g1.symm
end Go.Proofs.YtmhhcfceikcfbaaGreat
