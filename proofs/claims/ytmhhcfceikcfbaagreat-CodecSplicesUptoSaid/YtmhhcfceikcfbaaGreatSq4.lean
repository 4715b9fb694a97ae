/- A region that does not draw, some of whose operations are guarded. -/
import Derived.Test.YtmhhcfceikcfbaaGreatSq2
namespace Go.Proofs.YtmhhcfceikcfbaaGreat

section
variable {P : Program} {Q : Exit → Act → World → Prop}
theorem list_of_held {ops : Array Oper} : ∀ (l : List Oper) (a : Act) (w : World), wpHeld P ops (NoPanic Q) (fun _ => True) (l.map (fun o => (false, o))) a w → wpList P ops (NoPanic Q) l a w
  | [], _, _, h => h
  | o :: r, a, w, h => by
    simp only [List.map_cons, wpHeld] at h
    simp only [wpList]
    split
    · rename_i hw
      rw [if_pos hw] at h
      rcases h with h | h
      · exact .inl (Oper.wp_mono2 (fun a w h => list_of_held r a w h.2) (fun _ _ _ h => h) (fun h => h) h)
      · exact .inr h
    · rename_i hw
      rw [if_neg hw] at h
      exact list_of_held r _ w h.2
theorem wp_region_guard0 {id : Nat} {a : Act} {w : World} {l : List Oper} (h : wpHeld P l.toArray (NoPanic Q) (fun _ => True) (l.map (fun o => (false, o))) a w) : (Code.region id l.toArray false).wp P Q a w :=
  wp_region_noPanic (wp_region_lit (list_of_held l a w h))
end
end Go.Proofs.YtmhhcfceikcfbaaGreat
