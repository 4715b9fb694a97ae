/- From a contract 'it returns true and leaves what was there' to the given statement: the steps that all laws share. -/
import Derived.Test.YtbpegoekjlehcaaRows
import Derived.Test.YtbpegoekjlehcaaW1
import Derived.ProofKit
import Derived.Lib.SmallJoins
import Derived.Deep.SlicePairs
import Derived.Deep.Slices
namespace Go.Proofs.Ytbpegoekjlehcaa
open Go.ChangeShapes Go.WideShapes Go.ChangeAt Go.RowKit Go.Joins Go.Deep

theorem Try.own : ownKnob Try.prog.godebug = none := by kernel_rfl
theorem Try.laidOut : laidOutB Try.prog = true := by kernel_rfl

section
variable {H : Type} {enc : TypeId × Value → H} {P : Program}
/-- What was read before the call reads so behind it. -/
theorem trodAll_stays (hl : laidOutB P = true) {W W' : World} (hb : Below W.heap.size W W') : ∀ (ts : List TypeId) (vs : List Value) (ds : List (DataW H)) (ps : List MemPlace),
    (∀ t ∈ ts, P.readableRec t = true ∧ t < P.types.size) → DataW.TrodAll enc P W 0 (fun _ => true) true ts vs ds ps → (∀ x ∈ ps, x.block < W.heap.size) →
    DataW.TrodAll enc P W' 0 (fun b => decide (b < W.heap.size)) true ts vs ds ps
  | [], [], [], _, _, h, _ => h
  | t :: ts, v :: vs, d :: ds, ps, hr, h, hlt => by
    obtain ⟨p, q, h1, h2, rfl⟩ := h
    have hr1 := hr t (by simp)
    exact ⟨p, q, hb.trod hl hr1.1 hr1.2 h1 (fun x hx => hlt x (by simp [hx])), trodAll_stays hl hb ts vs ds q (fun u hu => hr u (by simp [hu])) h2 (fun x hx => hlt x (by simp [hx])), rfl⟩
  | [], _ :: _, _, _, _, h, _ => by simp [DataW.TrodAll] at h
  | [], [], _ :: _, _, _, h, _ => by simp [DataW.TrodAll] at h
  | _ :: _, [], _, _, _, h, _ => by simp [DataW.TrodAll] at h
  | _ :: _, _ :: _, [], _, _, h, _ => by simp [DataW.TrodAll] at h

/-- A law's post. -/
theorem law_post {f : Func} {s : ChangeSpec} {W W' : World} {args : Array Value} {ds : List (DataW H)} {before : List MemPlace} {tb : TypeId} (hl : laidOutB P = true)
    (hW : DataW.Whole enc P f.params.toList s.vars false W args.toList ds [] before) (hv : s.vars = []) (hr : f.resultTypes = #[tb]) (htb : P.underlying tb = some .bool)
    (hfn : s.fn H (ds ++ []) = { results := [.lit (.bool true)], args := ds }) (hp : ∀ t ∈ f.params.toList, P.readableRec t = true ∧ t < P.types.size) (hb : Below W.heap.size W W') :
    s.post enc P f false true false false W args (.bool true) W' := by
  have hlt := hW.lt
  have hW' := hW
  obtain ⟨p, q, hA, hV, hpq, _, _⟩ := hW
  refine ⟨ds, [], before, [], before, [], hW', ?_, ?_, ?_, hb.frame _, fun h => by cases h⟩
  · rw [hfn, hr]
    exact trodAll_mk1 (shut_bool htb true)
  · rw [hfn]
    rw [hv] at hV
    simp only [DataW.TrodVars] at hV
    subst hV
    simp only [List.append_nil] at hpq
    subst hpq
    exact trodAll_stays hl hb _ _ _ _ hp hA hlt
  · rw [hv, hfn]
    rfl
end

theorem spot_none {w : World} {a : Addr} {v : Value} (h : w.cell? a = some v) : a = ⟨a.block, a.off, none⟩ := by
  obtain ⟨b, o, s⟩ := a
  cases s with
  | none => rfl
  | some x =>
    simp only [World.cell?] at h
    split at h <;> simp at h

section
variable {H : Type} {enc : TypeId × Value → H}
/-- A slice of structs of two ints that came in, as a list. -/
theorem pairs_of_trod {W : World} {t e : TypeId} {f0 f1 : Field} (ht : Try.prog.underlying t = some (.slice e)) (he : Try.prog.underlying e = some (.struct #[f0, f1])) (ce : Try.prog.cellsOf e = 2) (o0 : f0.offset = 0) (o1 : f1.offset = 1)
    (t0 : f0.type = 3) (t1 : f1.type = 3) (c3 : Try.prog.cellsOf 3 = 1)
    {fuel : Nat} {v : Value} {x : DataW H × List MemPlace} (h : DataW.trod enc Try.prog W 0 (fun _ => true) true fuel t [v] = some x) : ∃ l : List Tok, Sl encT 2 W W.heap.size v l := by
  rcases open_slice_pairs ht he ce o0 o1 (by rw [t0]; exact c3) (by rw [t1]; exact c3) h with ⟨hc, _⟩ | ⟨a, len, cap, m, n, V0, V1, D0, D1, P0, P1, hc, _, hlc, hcm, hm, _, hcells⟩
  · injection hc with hc _
    subst hc
    exact ⟨[], Sl.nil _ _⟩
  · injection hc with hc _
    subst hc
    simp only [if_true] at hm
    have hz : ∀ i, i < len → ∃ z : Int × Int, W.cell? (a.add (i * 2)) = some (.int .i64 z.1) ∧ W.cell? (a.add (i * 2 + 1)) = some (.int .i64 z.2) := by
      intro i hi
      obtain ⟨h1, h2, h3, h4⟩ := hcells i (by omega)
      rw [t0] at h3
      rw [t1] at h4
      obtain ⟨z0, e0, _, _⟩ := DataW.trod_int Try.underlying3 h3
      obtain ⟨z1, e1, _, _⟩ := DataW.trod_int Try.underlying3 h4
      injection e0 with e0 _
      injection e1 with e1 _
      exact ⟨(z0, z1), by rw [h1, e0], by rw [h2, e1]⟩
    obtain ⟨f, hf⟩ := choose_lt hz
    refine ⟨(List.range len).map f, some a, cap, by simp, by simpa using hlc, hcm, fun hn => ?_⟩
    simp only [List.length_map, List.length_range] at hn
    have h0 := (hf 0 hn).1
    rw [Nat.zero_mul] at h0
    have h0' : W.cell? a = some (.int .i64 (f 0).1) := by simpa [Addr.add] using h0
    have hs := spot_none h0'
    refine ⟨a.block, a.off, by rw [← hs], World.block_lt_of_cell? _ _ h0', fun i y hy j u hu => ?_⟩
    have hi : i < len := by have := (List.getElem?_eq_some_iff.1 hy).1; simpa using this
    have hy' : f i = y := by simpa [hi] using hy
    subst hy'
    have hj : j < 2 := by have := (List.getElem?_eq_some_iff.1 hu).1; rwa [encT_length] at this
    obtain ⟨g1, g2⟩ := hf i hi
    rw [hs, addr_add] at g1 g2
    match j, hj with
    | 0, _ => simp only [encT, List.getElem?_cons_zero, Option.some.injEq] at hu; subst hu; exact g1
    | 1, _ => simp only [encT, List.getElem?_cons_succ, List.getElem?_cons_zero, Option.some.injEq] at hu; subst hu; exact g2
theorem toks_of_trod {W : World} {fuel : Nat} {v : Value} {x : DataW H × List MemPlace} (h : DataW.trod enc Try.prog W 0 (fun _ => true) true fuel 22 [v] = some x) : ∃ l : List Tok, Toks W W.heap.size v l :=
  pairs_of_trod Try.underlying22 Try.underlying46 (by kernel_rfl) rfl rfl rfl rfl (by kernel_rfl) h
theorem prs_of_trod {W : World} {fuel : Nat} {v : Value} {x : DataW H × List MemPlace} (h : DataW.trod enc Try.prog W 0 (fun _ => true) true fuel 26 [v] = some x) : ∃ l : List Tok, Toks W W.heap.size v l :=
  pairs_of_trod Try.underlying26 Try.underlying62 (by kernel_rfl) rfl rfl rfl rfl (by kernel_rfl) h
theorem Try.cells24 : Try.prog.cellsOf 24 = 2 := by kernel_rfl
/-- The pair of lists that came in. -/
theorem two_of_arg {W : World} {r : Reach} {b0 : Nat} {v : Value} {d : DataW H} {p : List MemPlace} (hv : Value.okWide Try.prog W r b0 24 v) (h : DataW.Trod enc Try.prog W 0 (fun _ => true) true 24 v d p) :
    ∃ (va vb : Value) (a b : List Tok), v = .agg #[va, vb] ∧ Toks W W.heap.size va a ∧ Toks W W.heap.size vb b := by
  obtain ⟨va, vb, y0, y1, n, rfl, _, _, h0, h1⟩ := open_agg2 Try.underlying24 (by kernel_rfl) Try.cells24 hv h
  obtain ⟨a, ha⟩ := toks_of_trod h0
  obtain ⟨b, hb⟩ := toks_of_trod h1
  exact ⟨va, vb, a, b, rfl, ha, hb⟩
theorem prs_of_arg {W : World} {r : Reach} {b0 : Nat} {v : Value} {d : DataW H} {p : List MemPlace} (hv : Value.okWide Try.prog W r b0 26 v) (h : DataW.Trod enc Try.prog W 0 (fun _ => true) true 26 v d p) :
    ∃ l : List Tok, Toks W W.heap.size v l := by
  obtain ⟨a, len, cap, rfl⟩ := okWide_slice Try.underlying26 hv
  obtain ⟨n, hn⟩ := h
  exact prs_of_trod (by simpa [Value.cells] using hn)
theorem toks_of_arg {W : World} {r : Reach} {b0 : Nat} {v : Value} {d : DataW H} {p : List MemPlace} (hv : Value.okWide Try.prog W r b0 22 v) (h : DataW.Trod enc Try.prog W 0 (fun _ => true) true 22 v d p) :
    ∃ l : List Tok, Toks W W.heap.size v l := by
  obtain ⟨a, len, cap, rfl⟩ := okWide_slice Try.underlying22 hv
  obtain ⟨n, hn⟩ := h
  exact toks_of_trod (by simpa [Value.cells] using hn)
theorem byts_of_arg {W : World} {r : Reach} {b0 : Nat} {v : Value} {d : DataW H} {p : List MemPlace} (hv : Value.okWide Try.prog W r b0 39 v) (h : DataW.Trod enc Try.prog W 0 (fun _ => true) true 39 v d p) :
    ∃ l : List Nat, Sl (fun c : Nat => [Value.int .u8 c]) 1 W W.heap.size v l := by
  obtain ⟨a, len, cap, rfl⟩ := okWide_slice Try.underlying39 hv
  obtain ⟨n, hn⟩ := h
  rcases open_ints Try.underlying39 Try.underlying5 (by kernel_rfl) hn with ⟨hc, _⟩ | ⟨a', len', cap', zs, hc, _, hlc, hcm, hz, _, hcells, hwf⟩
  · simp only [Value.cells] at hc
    injection hc with hc _
    rw [hc]
    exact ⟨[], Sl.nil _ _⟩
  · simp only [Value.cells] at hc
    injection hc with hc _
    rw [hc]
    simp only [if_true] at hz
    refine ⟨(zs.take len').map Int.toNat, some a', cap', by simp; omega, by simp; omega, hcm, fun hn => ?_⟩
    simp only [List.length_map, List.length_take] at hn
    have h0 := hcells 0 (by omega)
    have h0' : W.cell? a' = some (.int .u8 (zs.getD 0 0)) := by simpa [Addr.add] using h0
    have hs := spot_none h0'
    refine ⟨a'.block, a'.off, by rw [← hs], World.block_lt_of_cell? _ _ h0', fun i y hy j u hu => ?_⟩
    have hi : i < (zs.take len').length := by have := (List.getElem?_eq_some_iff.1 hy).1; simpa using this
    have hi2 : i < zs.length := by rw [List.length_take] at hi; omega
    have hj : j < 1 := by have := (List.getElem?_eq_some_iff.1 hu).1; simpa using this
    have hy' : (zs[i]'hi2).toNat = y := by
      rw [List.getElem?_map, List.getElem?_eq_getElem hi] at hy
      simpa using hy
    have g := hcells i hi2
    rw [hs, addr_add] at g
    have hw := hwf (zs[i]'hi2) (List.getElem_mem _)
    match j, hj with
    | 0, _ =>
      simp only [List.getElem?_cons_zero, Option.some.injEq] at hu
      subst hu hy'
      rw [Nat.mul_one, Nat.add_zero, g]
      have : 0 ≤ zs[i]'hi2 := by
        simp [Lit.wf, IntKind.min, IntKind.max, IntKind.signed, IntKind.bits] at hw
        omega
      rw [List.getD_eq_getElem?_getD, List.getElem?_eq_getElem hi2, Option.getD_some, Int.toNat_of_nonneg this]
end
end Go.Proofs.Ytbpegoekjlehcaa
