/- Words for memory, more: appending a slice that reads as a list, in a region that draws its order; own slices beside a store elsewhere. -/
import Derived.Test.YtpcjklfdgjeamaaLib2
import Derived.Deep.AppendLies
import Derived.Deep.OwnRows
namespace Go.Proofs.Ytpcjklfdgjeamaa
open Go.RowKit

section
variable {α : Type} {enc : α → List Value} {sz : Nat}
theorem step_append_sl {P : Program} (w : World) {ops : Array Oper} {o : Oper} {a : Act} {K : Act → World → Prop} {Q : Exit → Act → World → Prop} {E0 : Prop} (hgd : o.guard = none) (s x : Operand) (t : TypeId)
    (ho : o.op = .call { callee := .builtin .append, args := #[s, x], argTypes := #[t, t] })
    (base : Nat) (E : TypeId) (i : TypeInfo) (z : Value) (bytes : Nat) (ht : P.underlying t = some (.slice E)) (hi : P.info? E = some i) (hz : i.zero = some z)
    (hsize : i.size = sz) (hby : i.bytes = bytes) (hzs : z.cells.size = sz) (hsz : 0 < sz) (he : ∀ x, (enc x).length = sz) (h1 : ∀ x, ∀ u ∈ enc x, u.oneCell' = true)
    (v : Value) (l : List α) (hs : a.eval s = v) (hown : Own enc sz E w base v l) (B : Nat) (vx : Value) (l2 : List α) (hvx : a.eval x = vx) (hx : Sl enc sz w B vx l2)
    (hbytes : (l.length + l2.length) * bytes ≤ 140737488355328) (hlen : l.length + l2.length ≤ 140737488355328) (hbase : base ≤ w.heap.size)
    (h : ∀ v' w', Own enc sz E w' base v' (l ++ l2) → w.grownBy w' v.ownBlock → K (a.put o.dst v') w') : if Region.wanted o (yielded ops a.tmps) = true then Oper.wp P o a w K Q else E0 := by
  have hw : Region.wanted o (yielded ops a.tmps) = true := by simp [Region.wanted, hgd]
  rw [if_pos hw]
  obtain ⟨v', w', hr, h2, h3⟩ := run_append_sl (P := P) w t o.type base E i z bytes ht hi hz hsize hby hzs hsz he h1 v l hown B vx l2 hx hbytes hlen hbase
  exact Lib.wp_append_run w s x t t ho v vx hs hvx v' w' hr (h v' w' h2 h3)

/-- An own slice, beside a store into a block of another type. -/
theorem Own.setFar {E : TypeId} {w : World} {base : Nat} {v : Value} {l : List α} (h : Own enc sz E w base v l) {G : Nat} {t : TypeId} {cs : Array Value} (hG : w.heap[G]? = some (.cells cs t (0, 0))) (hne : t ≠ E) (k : Nat) (x : Value) :
    Own enc sz E (w.setCell ⟨G, k, none⟩ x) base v l := by
  unfold Own at h ⊢
  refine ⟨h.1, ?_⟩
  rcases h.2 with h | ⟨q, cap, cur, rfl, hq, hh, r⟩
  · exact .inl h
  · refine .inr ⟨q, cap, cur, rfl, hq, ?_, r⟩
    have hqG : q ≠ G := by
      rintro rfl
      rw [hh] at hG
      injection hG with hG
      injection hG with _ hG
      exact hne hG.symm
    rw [Below.heap_setCell _ ⟨G, k, none⟩ _ q hqG]
    exact hh
/-- An empty slice that was just made. -/
theorem Own.empty {E : TypeId} (w : World) (base : Nat) (hb : base ≤ w.heap.size) : Own enc sz E (w.alloc (.cells #[] E)) base (.slice (some ⟨w.heap.size, 0, none⟩) 0 0) ([] : List α) := by
  have := World.ownsRow_made (base := base) (e := E) (size := sz) w #[] 0 hb (by simp [maxLen]) (by simp)
  exact this
end
end Go.Proofs.Ytpcjklfdgjeamaa
