/- From a contract 'it returns true and leaves what was there' to the given statement: the steps that all laws share; the arguments. -/
import Derived.Test.YtdnaifkcogadkaaRows
import Derived.Test.YtdnaifkcogadkaaD1
import Derived.ProofKit
import Derived.ChangeMaps5
import Derived.Lib.SmallJoins
import Derived.Deep.SlicePairs
import Derived.Deep.Slices
namespace Go.Proofs.Ytdnaifkcogadkaa
open Go.ChangeShapes Go.WideShapes Go.ChangeAt Go.RowKit Go.Joins Go.Deep

theorem Try.own : ownKnob Try.prog.godebug = none := by kernel_rfl
theorem Try.laidOut : laidOutB Try.prog = true := by kernel_rfl

section
variable {H : Type} {enc : TypeId × Value → H} {P : Program}
/-- What was read before the call reads so behind it. -/
theorem trodAll_stays (hl : laidOutB P = true) {W W' : World} (hb : Below W.heap.size W W') : ∀ (ts : List TypeId) (vs : List Value) (ds : List (DataW H)) (ps : List MemPlace),
    (∀ t ∈ ts, P.readableRec t = true ∧ t < P.types.size) → DataW.TrodAll enc P W 0 (fun _ => true) true ts vs ds ps → (∀ x ∈ ps, x.block < W.heap.size) →
    DataW.TrodAll enc P W' 0 (fun b => decide (b < W.heap.size)) true ts vs ds ps
  | [], [], [], _, _, h, _ => h
  | t :: ts, v :: vs, d :: ds, ps, hr, h, hlt => by
    obtain ⟨p, q, h1, h2, rfl⟩ := h
    have hr1 := hr t (by simp)
    exact ⟨p, q, hb.trod hl hr1.1 hr1.2 h1 (fun x hx => hlt x (by simp [hx])), trodAll_stays hl hb ts vs ds q (fun u hu => hr u (by simp [hu])) h2 (fun x hx => hlt x (by simp [hx])), rfl⟩
  | [], _ :: _, _, _, _, h, _ => by simp [DataW.TrodAll] at h
  | [], [], _ :: _, _, _, h, _ => by simp [DataW.TrodAll] at h
  | _ :: _, [], _, _, _, h, _ => by simp [DataW.TrodAll] at h
  | _ :: _, _ :: _, [], _, _, h, _ => by simp [DataW.TrodAll] at h

/-- A law's post. -/
theorem law_post {f : Func} {s : ChangeSpec} {W W' : World} {args : Array Value} {ds : List (DataW H)} {before : List MemPlace} {tb : TypeId} (hl : laidOutB P = true)
    (hW : DataW.Whole enc P f.params.toList s.vars false W args.toList ds [] before) (hv : s.vars = []) (hr : f.resultTypes = #[tb]) (htb : P.underlying tb = some .bool)
    (hfn : s.fn H (ds ++ []) = { results := [.lit (.bool true)], args := ds }) (hp : ∀ t ∈ f.params.toList, P.readableRec t = true ∧ t < P.types.size) (hb : Below W.heap.size W W') :
    s.post enc P f false true false false W args (.bool true) W' := by
  have hlt := hW.lt
  have hW' := hW
  obtain ⟨p, q, hA, hV, hpq, _, _⟩ := hW
  refine ⟨ds, [], before, [], before, [], hW', ?_, ?_, ?_, hb.frame _, fun h => by cases h⟩
  · rw [hfn, hr]
    exact trodAll_mk1 (shut_bool htb true)
  · rw [hfn]
    rw [hv] at hV
    simp only [DataW.TrodVars] at hV
    subst hV
    simp only [List.append_nil] at hpq
    subst hpq
    exact trodAll_stays hl hb _ _ _ _ hp hA hlt
  · rw [hv, hfn]
    rfl
end

theorem spot_none {w : World} {a : Addr} {v : Value} (h : w.cell? a = some v) : a = ⟨a.block, a.off, none⟩ := by
  obtain ⟨b, o, s⟩ := a
  cases s with
  | none => rfl
  | some x =>
    simp only [World.cell?] at h
    split at h <;> simp at h

theorem rd_of {P : Program} {ts : List TypeId} (h : ts.all (fun t => P.readableRec t && decide (t < P.types.size)) = true) : ∀ t ∈ ts, P.readableRec t = true ∧ t < P.types.size := fun t ht => by
  have := List.all_eq_true.1 h t ht
  simpa using this
set_option maxRecDepth 100000
section
variable {H : Type} {enc : TypeId × Value → H}
theorem str_of_arg {W : World} {r : Reach} {b0 : Nat} {v : Value} {d : DataW H} {p : List MemPlace} (hv : Value.okWide Try.prog W r b0 9 v) (h : DataW.Trod enc Try.prog W 0 (fun _ => true) true 9 v d p) : ∃ s : ByteArray, v = .string s ∧ s.size ≤ 9223372036854775807 := by
  obtain ⟨s, rfl, _, _, hs⟩ := ChangeMaps.open_string Try.underlying9 hv h
  exact ⟨s, rfl, by simpa [maxLen] using hs⟩
theorem Try.cells31 : Try.prog.cellsOf 31 = 2 := by kernel_rfl
/-- A damage that came in. -/
theorem dmg_of_arg {W : World} {r : Reach} {b0 : Nat} {v : Value} {d : DataW H} {p : List MemPlace} (hv : Value.okWide Try.prog W r b0 31 v) (h : DataW.Trod enc Try.prog W 0 (fun _ => true) true 31 v d p) :
    ∃ at_ xo : Nat, v = .agg #[.int .u16 at_, .int .u8 xo] ∧ at_ < 65536 ∧ xo < 256 := by
  obtain ⟨v0, v1, y0, y1, n, rfl, _, _, h0, h1⟩ := open_agg2 Try.underlying31 (by kernel_rfl) Try.cells31 hv h
  obtain ⟨z0, e0, _, w0⟩ := DataW.trod_int Try.underlying29 h0
  obtain ⟨z1, e1, _, w1⟩ := DataW.trod_int Try.underlying5 h1
  injection e0 with e0 _
  injection e1 with e1 _
  subst e0 e1
  have k0 : 0 ≤ z0 ∧ z0 < 65536 := by
    simp [Lit.wf, IntKind.min, IntKind.max, IntKind.signed, IntKind.bits] at w0; omega
  have k1 : 0 ≤ z1 ∧ z1 < 256 := by
    simp [Lit.wf, IntKind.min, IntKind.max, IntKind.signed, IntKind.bits] at w1; omega
  refine ⟨z0.toNat, z1.toNat, ?_, by omega, by omega⟩
  rw [Int.toNat_of_nonneg k0.1, Int.toNat_of_nonneg k1.1]
/-- A slice of parts that came in, as a list. -/
theorem parts_of_trod {W : World} {fuel : Nat} {v : Value} {x : DataW H × List MemPlace} (h : DataW.trod enc Try.prog W 0 (fun _ => true) true fuel 22 [v] = some x) : ∃ l : List Prt, Parts W W.heap.size v l := by
  rcases open_slice_pairs Try.underlying22 Try.underlying38 (by kernel_rfl) rfl rfl (by kernel_rfl) (by kernel_rfl) h with ⟨hc, _⟩ | ⟨a, len, cap, m, n, V0, V1, D0, D1, P0, P1, hc, _, hlc, hcm, hm, _, hcells⟩
  · injection hc with hc _
    subst hc
    exact ⟨[], Sl.nil _ _⟩
  · injection hc with hc _
    subst hc
    simp only [if_true] at hm
    have hz : ∀ i, i < len → ∃ z : Prt, W.cell? (a.add (i * 2)) = some (.string z.1) ∧ W.cell? (a.add (i * 2 + 1)) = some (.string z.2) := by
      intro i hi
      obtain ⟨h1, h2, h3, h4⟩ := hcells i (by omega)
      obtain ⟨z0, e0, _⟩ := DataW.trod_string Try.underlying9 h3
      obtain ⟨z1, e1, _⟩ := DataW.trod_string Try.underlying9 h4
      injection e0 with e0 _
      injection e1 with e1 _
      exact ⟨(z0, z1), by rw [h1, e0], by rw [h2, e1]⟩
    obtain ⟨f, hf⟩ := choose_lt hz
    refine ⟨(List.range len).map f, some a, cap, by simp, by simpa using hlc, hcm, fun hn => ?_⟩
    simp only [List.length_map, List.length_range] at hn
    have h0 := (hf 0 hn).1
    rw [Nat.zero_mul] at h0
    have h0' : W.cell? a = some (.string (f 0).1) := by simpa [Addr.add] using h0
    have hs := spot_none h0'
    refine ⟨a.block, a.off, by rw [← hs], World.block_lt_of_cell? _ _ h0', fun i y hy j u hu => ?_⟩
    have hi : i < len := by have := (List.getElem?_eq_some_iff.1 hy).1; simpa using this
    have hy' : f i = y := by simpa [hi] using hy
    subst hy'
    have hj : j < 2 := by have := (List.getElem?_eq_some_iff.1 hu).1; rwa [encP_length] at this
    obtain ⟨g1, g2⟩ := hf i hi
    rw [hs, addr_add] at g1 g2
    match j, hj with
    | 0, _ => simp only [encP, List.getElem?_cons_zero, Option.some.injEq] at hu; subst hu; exact g1
    | 1, _ => simp only [encP, List.getElem?_cons_succ, List.getElem?_cons_zero, Option.some.injEq] at hu; subst hu; exact g2
theorem parts_of_arg {W : World} {r : Reach} {b0 : Nat} {v : Value} {d : DataW H} {p : List MemPlace} (hv : Value.okWide Try.prog W r b0 22 v) (h : DataW.Trod enc Try.prog W 0 (fun _ => true) true 22 v d p) :
    ∃ l : List Prt, Parts W W.heap.size v l := by
  obtain ⟨a, len, cap, rfl⟩ := okWide_slice Try.underlying22 hv
  obtain ⟨n, hn⟩ := h
  exact parts_of_trod (by simpa [Value.cells] using hn)
end
end Go.Proofs.Ytdnaifkcogadkaa
