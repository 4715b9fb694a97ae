/- A set of names kept as a map[string]bool of the call's own. -/
import Derived.Test.YtdnaifkcogadkaaC4
import Derived.MapKept
import Derived.Maps.Own
import Derived.Maps.OwnOps
namespace Go.Proofs.Ytdnaifkcogadkaa
open Go.RowKit Go.MapKept
open Go.ChangeMaps (setBlock heap_setBlock_same heap_setBlock_other)

/-- The map's block holds the keys of S, each with true. -/
def SeenAt (w : World) (b : Nat) (S : List ByteArray) : Prop :=
  ∃ es clock, w.heap[b]? = some (.map es clock) ∧ (∀ e ∈ es.toList, ∃ x, e.key = .string x ∧ x ∈ S ∧ e.val = .bool true) ∧ ∀ x ∈ S, ∃ e ∈ es.toList, e.key = .string x

section
variable {P : Program} {w : World} {b : Nat} {S : List ByteArray} {t k e : TypeId}
theorem SeenAt.new (w : World) : SeenAt (w.alloc (.map #[] 0)) w.heap.size [] := ⟨#[], 0, (heap_alloc w _).1, by simp, by simp⟩
theorem SeenAt.lt (h : SeenAt w b S) : b < w.heap.size := by
  obtain ⟨es, clock, hb, _⟩ := h
  exact (Array.getElem?_eq_some_iff.1 hb).1
theorem SeenAt.below {w' : World} (h : SeenAt w b S) (hb : Below w.heap.size w w') : SeenAt w' b S := by
  have hlt := h.lt
  obtain ⟨es, clock, h1, h2⟩ := h
  exact ⟨es, clock, (hb.block _ hlt).trans h1, h2⟩
theorem SeenAt.find (h : SeenAt w b S) (hk : P.underlying k = some .string) (x : ByteArray) : ∃ es clock, w.heap[b]? = some (.map es clock) ∧ (∀ e ∈ es.toList, ∃ x, e.key = .string x ∧ x ∈ S ∧ e.val = .bool true) ∧ (∀ x ∈ S, ∃ e ∈ es.toList, e.key = .string x) ∧
    ((Instr.findKey k (.string x) es.toList).run P w = .ok none w ∧ x ∉ S ∨ ∃ j e, (Instr.findKey k (.string x) es.toList).run P w = .ok (some (j, .bool true)) w ∧ es[j]? = some e ∧ e.key = .string x ∧ x ∈ S) := by
  obtain ⟨es, clock, hb, h1, h2⟩ := h
  refine ⟨es, clock, hb, h1, h2, ?_⟩
  have hks : ∀ y ∈ es.toList, IsKey .string y.key := fun y hy => by
    obtain ⟨z, hz, _⟩ := h1 y hy
    rw [hz]; exact trivial
  rcases findNow_spec (d := .string) (k := .string x) trivial es.toList 0 hks with ⟨f1, f2⟩ | ⟨j, e0, f1, f2, f3⟩
  · refine .inl ⟨run_findKey hk f1, fun hx => ?_⟩
    obtain ⟨e, he, hek⟩ := h2 x hx
    exact f2 e he hek
  · obtain ⟨z, hz, hzS, hzv⟩ := h1 e0 (List.mem_of_getElem? f2)
    rw [f3] at hz
    injection hz with hz
    subst hz
    refine .inr ⟨j, e0, ?_, by simpa using f2, f3, hzS⟩
    have := run_findKey (w := w) hk f1
    rw [hzv] at this
    simpa using this
open Classical in
theorem SeenAt.lookup (h : SeenAt w b S) (ht : P.underlying t = some (.map k e)) (hk : P.underlying k = some .string) (hz : (zeroValue e).run P w = .ok (.bool false) w) (x : ByteArray) :
    (Instr.lookup t (.map (some b)) (.string x) false).run P w = .ok (.bool (decide (x ∈ S))) w := by
  obtain ⟨es, clock, hb, _, _, hf⟩ := h.find hk x
  have hch : ∀ em, (Instr.checkKey em 10000 k (.string x)).run P w = .ok () w := fun em => run_checkKey hk (show IsKey .string (.string x) from trivial) em 9999
  rcases hf with ⟨h1, h2⟩ | ⟨j, e0, h1, _, _, h2⟩
  · simp [Instr.lookup, run_underlying ht, MapKept.run_getObj_map hb, hch, h1, hz, Result.andThen, h2]
  · simp [Instr.lookup, run_underlying ht, MapKept.run_getObj_map hb, hch, h1, Result.andThen, h2]
theorem SeenAt.update (h : SeenAt w b S) (ht : P.underlying t = some (.map k e)) (hk : P.underlying k = some .string) (x : ByteArray) (hx : x ∉ S) :
    ∃ w', (Instr.mapUpdate t (.map (some b)) (.string x) (.bool true)).run P w = .ok () w' ∧ SeenAt w' b (x :: S) ∧ w.grownBy w' (some b) := by
  obtain ⟨es, clock, hb, g1, g2, hf⟩ := h.find hk x
  have hch : ∀ em, (Instr.checkKey em 10000 k (.string x)).run P w = .ok () w := fun em => run_checkKey hk (show IsKey .string (.string x) from trivial) em 9999
  rcases hf with ⟨h1, h2⟩ | ⟨j, e0, h1, _, _, h2⟩
  · refine ⟨setBlock w b (.map (es.push ⟨.string x, .bool true, clock⟩) (clock + 1)), ?_, ⟨_, _, heap_setBlock_same hb _, ?_, ?_⟩, ⟨rfl, rfl, rfl, by simp [setBlock], fun i _ hi => heap_setBlock_other hb _ (fun e => hi (by rw [e]))⟩⟩
    · simp [Instr.mapUpdate, run_underlying ht, MapKept.run_getObj_map hb, hch, h1, MapKept.run_setObj_map _ hb, Result.andThen, setBlock]
    · intro e' he'
      simp only [Array.toList_push, List.mem_append, List.mem_singleton] at he'
      rcases he' with he' | rfl
      · obtain ⟨z, z1, z2, z3⟩ := g1 e' he'
        exact ⟨z, z1, List.mem_cons_of_mem _ z2, z3⟩
      · exact ⟨x, rfl, List.mem_cons_self .., rfl⟩
    · intro z hz
      rcases List.mem_cons.1 hz with rfl | hz
      · exact ⟨_, by simp; exact .inr rfl, rfl⟩
      · obtain ⟨e', he', hk'⟩ := g2 z hz
        exact ⟨e', by simp; exact .inl (by simpa using he'), hk'⟩
  · exact absurd h2 hx
end

open Classical in
theorem wpList_seen {P : Program} (w : World) {ops : Array Oper} {rest : List Oper} {o : Oper} {a : Act} {Q : Exit → Act → World → Prop}
    (hg : o.guard = none) (m x : Operand) (t : TypeId) (hop : o.op = Op.lookup t m x false) (k e : TypeId) (ht : P.underlying t = some (.map k e)) (hk : P.underlying k = some .string) (hz : (zeroValue e).run P w = .ok (.bool false) w)
    (b : Nat) (S : List ByteArray) (z : ByteArray) (hm : a.eval m = .map (some b)) (hown : SeenAt w b S) (hx : a.eval x = .string z)
    (hK : wpList P ops Q rest (a.put o.dst (.bool (decide (z ∈ S)))) w) : wpList P ops Q (o :: rest) a w := by
  refine wpList_plain hg fun K' hK' => ?_
  have hrun := hown.lookup ht hk hz z
  unfold Oper.wp
  simp [execOp, hop, hm, hx, hrun, Result.andThen]
  exact hK' _ _ hK
theorem wpList_see {P : Program} (w : World) {ops : Array Oper} {rest : List Oper} {o : Oper} {a : Act} {Q : Exit → Act → World → Prop}
    (hg : o.guard = none) (m x v : Operand) (t : TypeId) (hop : o.op = Op.mapUpdate t m x v) (k e : TypeId) (ht : P.underlying t = some (.map k e)) (hk : P.underlying k = some .string)
    (b : Nat) (S : List ByteArray) (z : ByteArray) (hm : a.eval m = .map (some b)) (hown : SeenAt w b S) (hx : a.eval x = .string z) (hv : a.eval v = .bool true) (hn : z ∉ S)
    (hK : ∀ w', SeenAt w' b (z :: S) → w.grownBy w' (some b) → wpList P ops Q rest (a.put o.dst undef) w') : wpList P ops Q (o :: rest) a w := by
  refine wpList_plain hg fun K' hK' => ?_
  obtain ⟨w', hrun, r1, r2⟩ := hown.update ht hk z hn
  unfold Oper.wp
  simp [execOp, hop, hm, hx, hv, hrun, Result.andThen]
  exact hK' _ _ (hK w' r1 r2)
end Go.Proofs.Ytdnaifkcogadkaa
