/- Words for the closures and readers of records. -/
import Derived.Test.YtmhhcfceikcfbaaGreatR6
import Derived.Test.YtmhhcfceikcfbaaGreatSq
namespace Go.Proofs.YtmhhcfceikcfbaaGreat
open Go.RowKit

/-- A slice as a record of one cell. -/
def slP {α : Type} (R : Rp α) (sz : Nat) : Rp (List α) := fun w G vs l => ∃ v, vs = [v] ∧ Slv R sz w G v l
theorem stb_sl {α : Type} {R : Rp α} {sz : Nat} (hR : Stb R) : Stb (slP R sz) := by
  rintro w w' G G' vs x hG hb ⟨v, e, h⟩
  exact ⟨v, e, h.stb hR hG hb⟩
/-- What was made since 'a0'. -/
def Since (a0 : Nat) (w : World) : Nat → Prop := fun b => a0 ≤ b ∧ b < w.heap.size
theorem Stb.grow {α : Type} {R : Rp α} (hR : Stb R) {a0 q : Nat} {wi w' : World} {vs : List Value} {x : α} (hg : wi.grownBy w' (some q)) (hq : q < a0) (h : R wi (Since a0 wi) vs x) : R w' (Since a0 w') vs x :=
  hR _ _ _ _ _ _ (fun b hb => ⟨hb.1, Nat.lt_of_lt_of_le hb.2 hg.size⟩) (fun b hb hlt => hg.block b hlt (fun e => by injection e with e; have := hb.1; omega)) h
theorem Slv.grow {α : Type} {R : Rp α} {sz : Nat} (hR : Stb R) {a0 q : Nat} {wi w' : World} {v : Value} {l : List α} (h : Slv R sz wi (Since a0 wi) v l) (hg : wi.grownBy w' (some q)) (hq : q < a0) : Slv R sz w' (Since a0 w') v l :=
  h.stb hR (fun b hb => ⟨hb.1, Nat.lt_of_lt_of_le hb.2 hg.size⟩) (fun b hb hlt => hg.block b hlt (fun e => by injection e with e; have := hb.1; omega))
theorem Slv.since {α : Type} {R : Rp α} {sz : Nat} (hR : Stb R) {a0 a1 : Nat} {w : World} {v : Value} {l : List α} (h : Slv R sz w (fun b => a1 ≤ b ∧ b < w.heap.size) v l) (ha : a0 ≤ a1) : Slv R sz w (Since a0 w) v l :=
  h.stb hR (fun b hb => ⟨Nat.le_trans ha hb.1, hb.2⟩) (fun b _ _ => rfl)
theorem Stb.since {α : Type} {R : Rp α} (hR : Stb R) {a0 a1 : Nat} {w : World} {vs : List Value} {x : α} (h : R w (fun b => a1 ≤ b ∧ b < w.heap.size) vs x) (ha : a0 ≤ a1) : R w (Since a0 w) vs x :=
  hR _ _ _ _ _ _ (fun b hb => ⟨Nat.le_trans ha hb.1, hb.2⟩) (fun b _ _ => rfl) h
theorem Slv.drew {α : Type} {R : Rp α} {sz : Nat} (hR : Stb R) {a0 : Nat} {w : World} {v : Value} {l : List α} (h : Slv R sz w (Since a0 w) v l) : Slv R sz w.drew (Since a0 w.drew) v l :=
  Slv.stb (w := w) (w' := w.drew) (G := Since a0 w) (G' := Since a0 w.drew) hR (fun _ hb => hb) (fun _ _ _ => rfl) h
theorem Stb.drew {α : Type} {R : Rp α} (hR : Stb R) {a0 : Nat} {w : World} {vs : List Value} {x : α} (h : R w (Since a0 w) vs x) : R w.drew (Since a0 w.drew) vs x :=
  hR w w.drew (Since a0 w) (Since a0 w.drew) vs x (fun _ hb => hb) (fun _ _ _ => rfl) h
/-- Within a reader's walk: the reader, the block of what is read, the captured cell. -/
structure Inv (E ty r c g : Nat) (s : ByteArray) (w : World) (a0 : Nat) (k : Nat) (e : Int) (cur : Array Value) (wi : World) : Prop where
  rdr : Rdr ty r s k e wi
  le : k ≤ s.size
  blk : wi.heap[g]? = some (.cells cur E (0, 0))
  cap : wi.cell? ⟨c, 0, none⟩ = some (.pointer (some ⟨r, 0, none⟩))
  grown : w.grownBy wi (some r)
  gr : g ≠ r
  cr : c ≠ r
  cg : c ≠ g
  gw : w.heap.size ≤ g
  ga : g < a0
  ra : r < a0
  aw : a0 ≤ wi.heap.size
section
variable {E ty r c g a0 k k' : Nat} {s : ByteArray} {w wi w' : World} {e e' : Int} {cur new : Array Value}
theorem Inv.call (h : Inv E ty r c g s w a0 k e cur wi) (hr : Rdr ty r s k' e' w') (hk : k' ≤ s.size) (hg : wi.grownBy w' (some r)) : Inv E ty r c g s w a0 k' e' cur w' :=
  ⟨hr, hk, blk_over hg h.blk h.gr, grown_cell hg h.cap h.cr, grown_trans h.grown hg, h.gr, h.cr, h.cg, h.gw, h.ga, h.ra, Nat.le_trans h.aw hg.size⟩
theorem Inv.store (h : Inv E ty r c g s w a0 k e cur wi) (hb : w'.heap[g]? = some (.cells new E (0, 0))) (hg : wi.grownBy w' (some g)) : Inv E ty r c g s w a0 k e new w' := by
  refine ⟨(hg.block r (lt_of_blk h.rdr) (fun q => h.gr (by injection q with q; exact q.symm))).trans h.rdr, h.le, hb, grown_cell hg h.cap h.cg, ?_, h.gr, h.cr, h.cg, h.gw, h.ga, h.ra, Nat.le_trans h.aw hg.size⟩
  refine ⟨hg.os.trans h.grown.os, hg.tape.trans h.grown.tape, hg.output.trans h.grown.output, Nat.le_trans h.grown.size hg.size, fun i hi hn => ?_⟩
  refine (hg.block i (Nat.lt_of_lt_of_le hi h.grown.size) (fun q => ?_)).trans (h.grown.block i hi hn)
  injection q with q
  have := h.gw
  omega
theorem Inv.drew (h : Inv E ty r c g s w a0 k e cur wi) : Inv E ty r c g s w a0 k e cur wi.drew :=
  ⟨h.rdr, h.le, h.blk, h.cap, grown_drewN h.grown 1, h.gr, h.cr, h.cg, h.gw, h.ga, h.ra, h.aw⟩
end
/-- The same without a captured cell. -/
structure InvN (E ty r g : Nat) (s : ByteArray) (w : World) (a0 : Nat) (k : Nat) (e : Int) (cur : Array Value) (wi : World) : Prop where
  rdr : Rdr ty r s k e wi
  le : k ≤ s.size
  blk : wi.heap[g]? = some (.cells cur E (0, 0))
  grown : w.grownBy wi (some r)
  gr : g ≠ r
  gw : w.heap.size ≤ g
  ga : g < a0
  ra : r < a0
  aw : a0 ≤ wi.heap.size
section
variable {E ty r g a0 k k' : Nat} {s : ByteArray} {w wi w' : World} {e e' : Int} {cur new : Array Value}
theorem InvN.call (h : InvN E ty r g s w a0 k e cur wi) (hr : Rdr ty r s k' e' w') (hk : k' ≤ s.size) (hg : wi.grownBy w' (some r)) : InvN E ty r g s w a0 k' e' cur w' :=
  ⟨hr, hk, blk_over hg h.blk h.gr, grown_trans h.grown hg, h.gr, h.gw, h.ga, h.ra, Nat.le_trans h.aw hg.size⟩
theorem InvN.store (h : InvN E ty r g s w a0 k e cur wi) (hb : w'.heap[g]? = some (.cells new E (0, 0))) (hg : wi.grownBy w' (some g)) : InvN E ty r g s w a0 k e new w' := by
  refine ⟨(hg.block r (lt_of_blk h.rdr) (fun q => h.gr (by injection q with q; exact q.symm))).trans h.rdr, h.le, hb, ?_, h.gr, h.gw, h.ga, h.ra, Nat.le_trans h.aw hg.size⟩
  refine ⟨hg.os.trans h.grown.os, hg.tape.trans h.grown.tape, hg.output.trans h.grown.output, Nat.le_trans h.grown.size hg.size, fun i hi hn => ?_⟩
  refine (hg.block i (Nat.lt_of_lt_of_le hi h.grown.size) (fun q => ?_)).trans (h.grown.block i hi hn)
  injection q with q
  have := h.gw
  omega
theorem InvN.drew (h : InvN E ty r g s w a0 k e cur wi) : InvN E ty r g s w a0 k e cur wi.drew :=
  ⟨h.rdr, h.le, h.blk, grown_drewN h.grown 1, h.gr, h.gw, h.ga, h.ra, h.aw⟩
end
/-- The bytes that are left bound the depth. -/
theorem deep_next {α : Type} {p : Rd α} {s : ByteArray} {k k' n : Nat} {e e' : Int} {x : α} (h : e = 0 → s.size - k < n) (g : Res p s k e x k' e') : e' = 0 → s.size - k' < n := by
  intro he
  subst he
  have h1 := g.le
  have h2 := h g.ok0.1
  omega
theorem sz3 : (Tryz.prog.info? 3).map (·.size) = some 1 := by kernel_rfl
theorem sz4 : (Tryz.prog.info? 4).map (·.size) = some 1 := by kernel_rfl
theorem sz9 : (Tryz.prog.info? 9).map (·.size) = some 1 := by kernel_rfl
theorem sz33 : (Tryz.prog.info? 33).map (·.size) = some 1 := by kernel_rfl
theorem sz34 : (Tryz.prog.info? 34).map (·.size) = some 1 := by kernel_rfl
theorem sz40 : (Tryz.prog.info? 40).map (·.size) = some 5 := by kernel_rfl
theorem sz51 : (Tryz.prog.info? 51).map (·.size) = some 1 := by kernel_rfl
theorem sz66 : (Tryz.prog.info? 66).map (·.size) = some 1 := by kernel_rfl
theorem one1 {v : Value} (h : v.oneCell' = true) : ∀ u ∈ [v], u.oneCell' = true := by
  intro u hu
  rw [List.mem_singleton.1 hu]
  exact h
end Go.Proofs.YtmhhcfceikcfbaaGreat
