/- Walks: the law's bytes of numbers, texts, Booleans, properties. -/
import Derived.BigQuiet
import Derived.Deep.Cut
import Derived.Test.YtmhhcfceikcfbaaGreatDfR2
import Derived.Test.YtmhhcfceikcfbaaGreatDfSq
namespace Go.Proofs.YtmhhcfceikcfbaaGreat
open Go.RowKit
theorem Rp.below {α : Type} {R : Rp α} (hR : Stb R) {w w' : World} {G : Nat → Prop} {vs : List Value} {x : α} {B : Nat} (h : R w G vs x) (hG : ∀ b, G b → b < B) (hb : Below B w w') : R w' G vs x :=
 hR _ _ _ _ _ _ (fun _ h => h) (fun b hg _ => hb.block b (hG b hg)) h
end Go.Proofs.YtmhhcfceikcfbaaGreat
namespace Go.Proofs.YtmhhcfceikcfbaaGreat
open Go.RowKit
/-- An element's cells. -/
def EltS (b o : Nat) (vs : List Value) (w : World) : Prop := ∀ (j : Nat) (u : Value), vs[j]? = some u → w.cell? ⟨b, o + j, none⟩ = some u
theorem EltS.below {b o : Nat} {vs : List Value} {w w' : World} {B : Nat} (h : EltS b o vs w) (hb : b < B) (hk : Below B w w') : EltS b o vs w' :=
 fun j u hu => (hk.cell (p := ⟨b, o + j, none⟩) hb).trans (h j u hu)
theorem EltS.alloc {b o : Nat} {vs : List Value} {w : World} (h : EltS b o vs w) (hb : b < w.heap.size) (ob : Obj) : EltS b o vs (w.alloc ob) :=
 h.below hb ((Below.refl _ _).alloc (Nat.le_refl _) ob)
theorem EltS.drew {b o : Nat} {vs : List Value} {w : World} (h : EltS b o vs w) : EltS b o vs w.drew := h
end Go.Proofs.YtmhhcfceikcfbaaGreat
