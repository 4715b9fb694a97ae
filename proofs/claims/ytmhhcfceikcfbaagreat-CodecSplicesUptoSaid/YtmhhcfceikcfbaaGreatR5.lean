/- Plain laws and a walk: a list read element by element. -/
import Derived.Test.YtmhhcfceikcfbaaGreatR4
import Derived.Test.YtmhhcfceikcfbaaGreatW3
import Derived.Maps.AppendAt
namespace Go.Proofs.YtmhhcfceikcfbaaGreat
open Go.RowKit

theorem wpList_push_at {α : Type} {enc : α → List Value} {P : Program} (w : World) {ops : Array Oper} {rest : List Oper} {o : Oper} {a : Act} {Q : Exit → Act → World → Prop}
    (hgd : o.guard = none) (s x : Operand) (t : TypeId)
    (ho : o.op = .call { callee := .builtin .append, args := #[s, x], argTypes := #[t, t] })
    (base : Nat) (E : TypeId) (i : TypeInfo) (z : Value) (sz bytes : Nat) (ht : P.underlying t = some (.slice E)) (hi : P.info? E = some i) (hz : i.zero = some z)
    (hsize : i.size = sz) (hby : i.bytes = bytes) (hzs : z.cells.size = sz) (hsz : 0 < sz) (he : ∀ x, (enc x).length = sz) (h1 : ∀ x, ∀ u ∈ enc x, u.oneCell' = true)
    (v : Value) (l : List α) (hs : a.eval s = v) (hown : Own enc sz E w base v l)
    (g c : Nat) (y : α) (hx : a.eval x = .slice (some ⟨g, 0, none⟩) 1 c) (hcell : ∀ j u, (enc y)[j]? = some u → w.cell? ⟨g, j, none⟩ = some u)
    (hbytes : (l.length + 1) * bytes ≤ 140737488355328) (hlen : l.length < 140737488355328) (hbase : base ≤ w.heap.size)
    (h : ∀ v' w', Own enc sz E w' base v' (l ++ [y]) → w.grownBy w' v.ownBlock → (v'.ownBlock = v.ownBlock ∨ v'.ownBlock = some w.heap.size) → wpList P ops Q rest (a.put o.dst v') w') : wpList P ops Q (o :: rest) a w := by
  refine wpList_append_own_at _ hgd s x t ho base E i z sz bytes ht hi hz hsize hby hzs hsz v l.length (l.flatMap enc) hs hown ⟨g, 0, none⟩ 1 c (enc y) hx (by rw [he, Nat.one_mul]) ?_ (h1 y) ?_ hbytes hbase ?_
  · intro j u hu
    rw [addr_add, Nat.zero_add]
    exact hcell j u hu
  · simp only [maxLen]; omega
  · intro v' w' hown' hg _ hat
    refine h v' w' ?_ hg hat
    unfold Own
    rw [List.length_append, List.flatMap_append]
    simpa using hown'
theorem Own.base_le {α : Type} {enc : α → List Value} {sz : Nat} {E : TypeId} {w : World} {base g : Nat} {v : Value} {l : List α} (h : Own enc sz E w base v l) (hg : v.ownBlock = some g) : base ≤ g ∧ g < w.heap.size := by
  rcases h.2 with ⟨rfl, _⟩ | ⟨g', cap, cur, rfl, hb, hh, _⟩
  · simp [Value.ownBlock] at hg
  · have : g' = g := by simpa [Value.ownBlock] using hg
    subst this
    exact ⟨hb, lt_of_blk hh⟩

/-- An element's cells, whatever they hold. -/
def Cel (sz : Nat) := { vs : List Value // vs.length = sz ∧ ∀ u ∈ vs, u.oneCell' = true }
def Cel.val {sz : Nat} (x : Cel sz) : List Value := x.1
/-- What is read so far. -/
def GetI {α : Type} (R : Rp α) (p : Rd α) (sz : Nat) (E ty : TypeId) (r c : Nat) (s : ByteArray) (w : World) (k1 : Nat) (e1 : Int) (i k : Nat) (v : Value) (wr : World) : Prop :=
  ∃ (L : List (Cel sz)) (l : List α), Own Cel.val sz E wr w.heap.size v L ∧ L.length = i ∧ l.length = i ∧ Rdr ty r s k e1 wr ∧ w.grownBy wr (some r) ∧ Res (manyR p i) s k1 e1 l k e1 ∧ wr.cell? ⟨c, 0, none⟩ = some (.pointer (some ⟨r, 0, none⟩)) ∧
    ∀ (j : Nat) (x : α), l[j]? = some x → ∃ vs : Cel sz, L[j]? = some vs ∧ ∃ G : Nat → Prop, (∀ b, G b → w.heap.size ≤ b ∧ b < wr.heap.size ∧ v.ownBlock ≠ some b) ∧ R wr G vs.val x
theorem GetI.start {α : Type} (R : Rp α) (p : Rd α) (sz : Nat) (E ty : TypeId) {r c k : Nat} {s : ByteArray} {w w1 : World} {e1 : Int} (hk : k ≤ s.size) (hr : Rdr ty r s k e1 w1) (hg : w.grownBy w1 (some r)) (hc : w1.cell? ⟨c, 0, none⟩ = some (.pointer (some ⟨r, 0, none⟩))) :
    GetI R p sz E ty r c s w k e1 0 k (.slice none 0 0) w1 :=
  ⟨[], [], Own.nil _ _, rfl, rfl, hr, hg, Res.many0 p s k e1 hk, hc, fun j x h => by simp at h⟩
theorem GetI.slv {α : Type} {R : Rp α} {p : Rd α} {sz : Nat} {E ty : TypeId} {r c : Nat} {s : ByteArray} {w : World} {k1 : Nat} {e1 : Int} {i k : Nat} {v : Value} {wr : World} (hR : Stb R) (h : GetI R p sz E ty r c s w k1 e1 i k v wr) :
    ∃ l, Slv R sz wr (fun b => w.heap.size ≤ b ∧ b < wr.heap.size) v l ∧ Rdr ty r s k e1 wr ∧ w.grownBy wr (some r) ∧ Res (manyR p i) s k1 e1 l k e1 := by
  obtain ⟨L, l, hown, hL, hl, hr, hg, hres, hcc, hel⟩ := h
  refine ⟨l, ?_, hr, hg, hres⟩
  have hle : L.length = l.length := by omega
  have hsl := hown.sl (fun x => x.2.1)
  unfold Own at hown
  rcases hown.2 with ⟨rfl, hn⟩ | ⟨g, cap, cur, rfl, hb, hh, hc1, hc2, hc3, hc4⟩
  · have : l = [] := List.eq_nil_of_length_eq_zero (by omega)
    subst this
    exact Slv.nil _ _
  · refine ⟨_, _, by rw [hle], by omega, hc2, fun hn => ⟨g, 0, rfl, ⟨hb, lt_of_blk hh⟩, lt_of_blk hh, fun j x hx => ?_⟩⟩
    obtain ⟨vs, hvs, G, hG, hRx⟩ := hel j x hx
    refine ⟨vs.val, vs.2.1, hR _ _ _ _ _ _ (fun b hb => ⟨(hG b hb).1, (hG b hb).2.1⟩) (fun b _ _ => rfl) hRx, fun q u hu => ?_⟩
    have := World.ownsRow.cells hown (g := g) rfl (j * sz + q) u (flatMap_get (fun x => x.2.1) L j vs hvs q u hu)
    rw [addr_add] at this
    rw [← this]
    congr 2
    omega
theorem GetI.push {α : Type} {R : Rp α} {p : Rd α} {sz : Nat} {E ty : TypeId} {r c : Nat} {s : ByteArray} {w : World} {k1 i k k2 : Nat} {v v' : Value} {wr w2 wa w' : World} {L : List (Cel sz)} {l : List α} {y : Cel sz} {x : α} (hR : Stb R) (hrw : r < w.heap.size) (hcw : c < w.heap.size)
    (hown : Own Cel.val sz E wr w.heap.size v L) (hL : L.length = i) (hl : l.length = i) (hg : w.grownBy wr (some r)) (hres : Res (manyR p i) s k1 0 l k 0)
    (hel : ∀ (j : Nat) (x : α), l[j]? = some x → ∃ vs : Cel sz, L[j]? = some vs ∧ ∃ G : Nat → Prop, (∀ b, G b → w.heap.size ≤ b ∧ b < wr.heap.size ∧ v.ownBlock ≠ some b) ∧ R wr G vs.val x)
    (hg2 : wr.grownBy w2 (some r)) (hr2 : Rdr ty r s k2 0 w2) (hc2 : w2.cell? ⟨c, 0, none⟩ = some (.pointer (some ⟨r, 0, none⟩))) (hres2 : Res p s k 0 x k2 0) (hRx : R w2 (fun b => wr.heap.size ≤ b ∧ b < w2.heap.size) y.val x)
    (hba : Below w2.heap.size w2 wa) (hown' : Own Cel.val sz E w' w.heap.size v' (L ++ [y])) (hgo : wa.grownBy w' v.ownBlock) (hat : v'.ownBlock = v.ownBlock ∨ v'.ownBlock = some wa.heap.size) :
    GetI R p sz E ty r c s w k1 0 (i + 1) k2 v' w' := by
  have z1 := hg.size
  have z2 := hg2.size
  have z3 := hba.size
  have z4 := hgo.size
  have hob : ∀ g, v.ownBlock = some g → w.heap.size ≤ g ∧ g < wr.heap.size := fun g h => hown.base_le h
  have key : ∀ b, b < w2.heap.size → v.ownBlock ≠ some b → w'.heap[b]? = w2.heap[b]? := fun b h1 h2 =>
    (hgo.block b (by omega) (fun e => h2 e.symm)).trans (hba.block b h1)
  have keyr : ∀ b, b < wr.heap.size → b ≠ r → v.ownBlock ≠ some b → w'.heap[b]? = wr.heap[b]? := fun b h1 h2 h3 =>
    (key b (by omega) h3).trans (hg2.block b h1 (fun e => h2 (by injection e)))
  have no : ∀ b, b < w.heap.size → v.ownBlock ≠ some b := fun b h e => by have := hob b e; omega
  refine ⟨L ++ [y], l ++ [x], hown', by simp [hL], by simp [hl], (key r (by omega) (no r hrw)).trans hr2, ?_, Res.snoc hres hres2, (World.cell?_of_block (a := ⟨c, 0, none⟩) (key c (by omega) (no c hcw))).trans hc2, ?_⟩
  · refine ⟨(hgo.os.trans hba.os).trans (hg2.os.trans hg.os), (hgo.tape.trans hba.tape).trans (hg2.tape.trans hg.tape), (hgo.output.trans hba.output).trans (hg2.output.trans hg.output), by omega, fun b hb hbr => ?_⟩
    exact (keyr b (by omega) (fun e => hbr (by rw [e])) (no b hb)).trans (hg.block b hb hbr)
  · intro j x' hx'
    rcases Nat.lt_or_ge j l.length with q | q
    · rw [List.getElem?_append_left q] at hx'
      obtain ⟨vs, hvs, G, hG, hRj⟩ := hel j x' hx'
      refine ⟨vs, by rw [List.getElem?_append_left (by omega)]; exact hvs, G, fun b hb => ?_, hR _ _ _ _ _ _ (fun _ h => h) (fun b hb hlt => ?_) hRj⟩
      · obtain ⟨g1, g2, g3⟩ := hG b hb
        refine ⟨g1, by omega, ?_⟩
        rcases hat with e | e
        · rw [e]; exact g3
        · rw [e]; intro e2; injection e2 with e3; omega
      · obtain ⟨g1, g2, g3⟩ := hG b hb
        exact keyr b g2 (by omega) g3
    · have hj : j = l.length := by
        have := (List.getElem?_eq_some_iff.1 hx').1
        simp at this
        omega
      subst hj
      have hxx : x' = x := by simpa using hx'.symm
      subst hxx
      refine ⟨y, by rw [hl, ← hL]; simp, _, fun b hb => ?_, hR _ _ _ _ _ _ (fun _ h => h) (fun b hb hlt => ?_) hRx⟩
      · refine ⟨by omega, by omega, ?_⟩
        rcases hat with e | e
        · rw [e]; intro e2; have := hob b e2; omega
        · rw [e]; intro e2; injection e2 with e3; omega
      · exact key b hlt (fun e => by have := hob b e; omega)
end Go.Proofs.YtmhhcfceikcfbaaGreat
