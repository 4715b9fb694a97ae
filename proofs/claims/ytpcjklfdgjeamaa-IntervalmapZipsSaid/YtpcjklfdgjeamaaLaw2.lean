/- The readings of the arguments: runs, plays, small arrays. -/
import Derived.Test.YtpcjklfdgjeamaaLaw
import Derived.Test.YtpcjklfdgjeamaaPlay
import Derived.Laws.IdiomArrays
import Derived.OpenShut
namespace Go.Proofs.Ytpcjklfdgjeamaa
open Go.ChangeShapes Go.WideShapes Go.ChangeAt Go.RowKit Go.Joins Go.Deep

section
variable {H : Type} {enc : TypeId × Value → H} {P : Program}
/-- A slice of structs that came in, as a list. -/
theorem structs_of_trod {α : Type} [Inhabited α] {en : α → List Value} {k : Nat} {W : World} {t e : TypeId} (ht : P.underlying t = some (.slice e)) (hC : P.cellsOf e = k) (hk : 0 < k) (hen : ∀ x, (en x).length = k)
    (hel : ∀ n cs y, DataW.trod enc P W 0 (fun _ => true) true n e cs = some y → ∃ x : α, cs = en x)
    {fuel : Nat} {v : Value} {x : DataW H × List MemPlace} (h : DataW.trod enc P W 0 (fun _ => true) true fuel t [v] = some x) : ∃ l : List α, Sl en k W W.heap.size v l := by
  rcases open_slice ht h with ⟨hc, _⟩ | ⟨a, len, cap, m, n, D, Pl, hc, _, hlc, hcm, hm, _, hi⟩
  · injection hc with hc _
    subst hc
    exact ⟨[], Sl.nil _ _⟩
  · injection hc with hc _
    subst hc
    simp only [if_true] at hm
    have hz : ∀ i, i < len → ∃ z : α, ∀ j u, (en z)[j]? = some u → W.cell? (a.add (i * k + j)) = some u := by
      intro i hil
      obtain ⟨cs, hcells, htr⟩ := hi i (by omega)
      rw [hC] at hcells
      obtain ⟨z, rfl⟩ := hel _ _ _ htr
      obtain ⟨_, hcl, hat⟩ := World.cells?_some hcells
      refine ⟨z, fun j u hj => ?_⟩
      have hjl : j < k := by have := (List.getElem?_eq_some_iff.1 hj).1; rwa [hen] at this
      have := hat j hjl
      rw [← Go.Deep.add_add, this, hj]
    obtain ⟨f, hf⟩ := choose_lt hz
    refine ⟨(List.range len).map f, some a, cap, by simp, by simpa using hlc, hcm, fun hn => ?_⟩
    simp only [List.length_map, List.length_range] at hn
    obtain ⟨u0, hu0⟩ : ∃ u, (en (f 0))[0]? = some u := ⟨(en (f 0))[0]'(by rw [hen]; exact hk), by simp⟩
    have h0 := hf 0 hn 0 u0 hu0
    have h0' : W.cell? a = some u0 := by simpa [Addr.add] using h0
    have hs := spot_none h0'
    refine ⟨a.block, a.off, by rw [← hs], World.block_lt_of_cell? _ _ h0', fun i y hy j u hu => ?_⟩
    have hil : i < len := by have := (List.getElem?_eq_some_iff.1 hy).1; simpa using this
    have hy' : f i = y := by simpa [hil] using hy
    subst hy'
    have g := hf i hil j u hu
    rw [hs, addr_add] at g
    rw [Nat.add_assoc]
    exact g
/-- A field of one cell that holds a number. -/
theorem int_field {W : World} {n : Nat} {t : TypeId} {k : IntKind} {cs : List Value} {o : Nat} {c : Value} {xs : List (DataW H × List MemPlace)} {i : Nat} (ht : P.underlying t = some (.int k)) (hc : P.cellsOf t = 1)
    (h : DataW.trod enc P W 0 (fun _ => true) true n t ((cs.drop o).take (P.cellsOf t)) = xs[i]?) (hi : i < xs.length) (hcs : cs[o]? = some c) : ∃ z, c = .int k z ∧ (Lit.int k z).wf = true := by
  rw [hc, List.getElem?_eq_getElem hi] at h
  have ho : o < cs.length := (List.getElem?_eq_some_iff.1 hcs).1
  rw [List.drop_eq_getElem_cons ho] at h
  obtain ⟨z, e, _, hw⟩ := DataW.trod_int ht h
  have hcc : cs[o] = c := (List.getElem?_eq_some_iff.1 hcs).2
  refine ⟨z, ?_, hw⟩
  have he : [cs[o]] = [Value.int k z] := e
  injection he with he _
  rw [← hcc, he]
end
theorem wf8 {z : Int} (h : (Lit.int .u8 z).wf = true) : ∃ n : Nat, z = n ∧ n < 256 := by
  have : 0 ≤ z ∧ z ≤ 255 := by
    simp [Lit.wf, IntKind.min, IntKind.max, IntKind.signed, IntKind.bits] at h
    omega
  exact ⟨z.toNat, by omega, by omega⟩
theorem Try.c3 : Try.prog.cellsOf 3 = 1 := by kernel_rfl
theorem Try.c5 : Try.prog.cellsOf 5 = 1 := by kernel_rfl
theorem Try.c82 : Try.prog.cellsOf 82 = 5 := by kernel_rfl
theorem Try.c31 : Try.prog.cellsOf 31 = 3 := by kernel_rfl
theorem Try.c35 : Try.prog.cellsOf 35 = 3 := by kernel_rfl

instance : Inhabited Opn := ⟨⟨0, 0, 0, 0, 0, by omega, by omega, by omega, by omega⟩⟩

section
variable {H : Type} {enc : TypeId × Value → H}
theorem op_elem {W : World} {n : Nat} {cs : List Value} {y : DataW H × List MemPlace} (h : DataW.trod enc Try.prog W 0 (fun _ => true) true n 82 cs = some y) : ∃ o : Opn, cs = encO o := by
  obtain ⟨xs, m, _, _, hl, hlen, hf⟩ := DataW.trod_struct Try.underlying82 h
  rw [Try.c82] at hl
  have hlen5 : xs.length = 5 := hlen
  match cs, hl with
  | [c0, c1, c2, c3, c4], _ =>
    obtain ⟨z0, rfl, w0⟩ := int_field Try.underlying5 Try.c5 (hf 0 _ rfl) (by omega) rfl
    obtain ⟨z1, rfl, w1⟩ := int_field Try.underlying5 Try.c5 (hf 1 _ rfl) (by omega) rfl
    obtain ⟨z2, rfl, w2⟩ := int_field Try.underlying5 Try.c5 (hf 2 _ rfl) (by omega) rfl
    obtain ⟨z3, rfl, w3⟩ := int_field Try.underlying5 Try.c5 (hf 3 _ rfl) (by omega) rfl
    obtain ⟨z4, rfl, _⟩ := int_field Try.underlying3 Try.c3 (hf 4 _ rfl) (by omega) rfl
    obtain ⟨n0, rfl, h0⟩ := wf8 w0
    obtain ⟨n1, rfl, h1⟩ := wf8 w1
    obtain ⟨n2, rfl, h2⟩ := wf8 w2
    obtain ⟨n3, rfl, h3⟩ := wf8 w3
    exact ⟨⟨n0, n1, n2, n3, z4, h0, h1, h2, h3⟩, rfl⟩
theorem run_elem {W : World} {n : Nat} {cs : List Value} {y : DataW H × List MemPlace} (h : DataW.trod enc Try.prog W 0 (fun _ => true) true n 31 cs = some y) : ∃ r : Rn, cs = encR r := by
  obtain ⟨xs, m, _, _, hl, hlen, hf⟩ := DataW.trod_struct Try.underlying31 h
  rw [Try.c31] at hl
  have hlen3 : xs.length = 3 := hlen
  match cs, hl with
  | [c0, c1, c2], _ =>
    obtain ⟨z0, rfl, _⟩ := int_field Try.underlying3 Try.c3 (hf 0 _ rfl) (by omega) rfl
    obtain ⟨z1, rfl, _⟩ := int_field Try.underlying3 Try.c3 (hf 1 _ rfl) (by omega) rfl
    obtain ⟨z2, rfl, _⟩ := int_field Try.underlying3 Try.c3 (hf 2 _ rfl) (by omega) rfl
    exact ⟨(z0, z1, z2), rfl⟩

/-- A play that came in. -/
structure PlayD where
  len : Nat
  val : Int
  ops : List Opn
def IsPlay (W : World) (v : Value) (P : PlayD) : Prop := ∃ sv, v = .agg #[.int .u8 P.len, .int .i64 P.val, sv] ∧ P.len < 256 ∧ OpsV W W.heap.size sv P.ops
theorem play_of_arg {W : World} {r : Reach} {b0 : Nat} {v : Value} {d : DataW H} {p : List MemPlace} (hv : Value.okWide Try.prog W r b0 35 v) (h : DataW.Trod enc Try.prog W 0 (fun _ => true) true 35 v d p) :
    ∃ P : PlayD, IsPlay W v P := by
  obtain ⟨v0, v1, v2, y0, y1, y2, n, rfl, _, _, h0, h1, h2⟩ := open_agg3 Try.underlying35 (by kernel_rfl) Try.c35 hv h
  obtain ⟨z0, e0, _, w0⟩ := DataW.trod_int Try.underlying5 h0
  obtain ⟨z1, e1, _, _⟩ := DataW.trod_int Try.underlying3 h1
  injection e0 with e0 _
  injection e1 with e1 _
  subst e0 e1
  obtain ⟨n0, rfl, hn0⟩ := wf8 w0
  obtain ⟨ops, ho⟩ := structs_of_trod Try.underlying33 Try.c82 (by omega) (fun _ => rfl) (fun _ _ _ h => op_elem h) h2
  exact ⟨⟨n0, z1, ops⟩, v2, rfl, hn0, ho⟩
theorem runs_of_arg {W : World} {r : Reach} {b0 : Nat} {v : Value} {d : DataW H} {p : List MemPlace} (hv : Value.okWide Try.prog W r b0 28 v) (h : DataW.Trod enc Try.prog W 0 (fun _ => true) true 28 v d p) :
    ∃ l : List Rn, RunsV W W.heap.size v l := by
  obtain ⟨a, len, cap, rfl⟩ := okWide_slice Try.underlying28 hv
  obtain ⟨n, hn⟩ := h
  exact structs_of_trod Try.underlying28 Try.c31 (by omega) (fun _ => rfl) (fun _ _ _ h => run_elem h) (by simpa [Value.cells] using hn)
end
theorem playv_any (v : Value) (P : PlayD) (w : World) (h : IsPlay w v P) : Calls Try.prog 16 #[v] w (PlayPost w) := by
  obtain ⟨sv, rfl, hl, hs⟩ := h
  exact play_any P.len P.val sv P.ops w hl hs
theorem IsPlay.over {w w' : World} {v : Value} {P : PlayD} (h : IsPlay w v P) (hb : Below w.heap.size w w') : IsPlay w' v P := by
  obtain ⟨sv, rfl, hl, hs⟩ := h
  exact ⟨sv, rfl, hl, hs.over hb⟩
end Go.Proofs.Ytpcjklfdgjeamaa
