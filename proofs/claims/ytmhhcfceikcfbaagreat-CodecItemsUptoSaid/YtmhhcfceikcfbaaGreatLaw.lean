/- From a contract 'it returns true and leaves what was there' to the given statement: the steps that all laws share; the arguments. -/
import Derived.Test.YtmhhcfceikcfbaaGreatRows
import Derived.Test.YtmhhcfceikcfbaaGreatLib
import Derived.Test.YtmhhcfceikcfbaaGreatChecked
import Derived.ProofKit
import Derived.ChangeMaps5
import Derived.Lib.SmallJoins
import Derived.Deep.SlicePairs
import Derived.Deep.Slices
namespace Go.Proofs.YtmhhcfceikcfbaaGreat
open Go.ChangeShapes Go.WideShapes Go.ChangeAt Go.RowKit Go.Joins Go.Deep

theorem Tryz.own : ownKnob Tryz.prog.godebug = none := by kernel_rfl
theorem Tryz.laidOut : laidOutB Tryz.prog = true := by kernel_rfl

section
variable {H : Type} {enc : TypeId × Value → H} {P : Program}
/-- What was read before the call reads so behind it. -/
theorem trodAll_stays (hl : laidOutB P = true) {W W' : World} (hb : Below W.heap.size W W') : ∀ (ts : List TypeId) (vs : List Value) (ds : List (DataW H)) (ps : List MemPlace),
    (∀ t ∈ ts, P.readableRec t = true ∧ t < P.types.size) → DataW.TrodAll enc P W 0 (fun _ => true) true ts vs ds ps → (∀ x ∈ ps, x.block < W.heap.size) →
    DataW.TrodAll enc P W' 0 (fun b => decide (b < W.heap.size)) true ts vs ds ps
  | [], [], [], _, _, h, _ => h
  | t :: ts, v :: vs, d :: ds, ps, hr, h, hlt => by
    obtain ⟨p, q, h1, h2, rfl⟩ := h
    have hr1 := hr t (by simp)
    exact ⟨p, q, hb.trod hl hr1.1 hr1.2 h1 (fun x hx => hlt x (by simp [hx])), trodAll_stays hl hb ts vs ds q (fun u hu => hr u (by simp [hu])) h2 (fun x hx => hlt x (by simp [hx])), rfl⟩
  | [], _ :: _, _, _, _, h, _ => by simp [DataW.TrodAll] at h
  | [], [], _ :: _, _, _, h, _ => by simp [DataW.TrodAll] at h
  | _ :: _, [], _, _, _, h, _ => by simp [DataW.TrodAll] at h
  | _ :: _, _ :: _, [], _, _, h, _ => by simp [DataW.TrodAll] at h

/-- A law's post. -/
theorem law_post {f : Func} {s : ChangeSpec} {W W' : World} {args : Array Value} {ds : List (DataW H)} {before : List MemPlace} {tb : TypeId} (hl : laidOutB P = true)
    (hW : DataW.Whole enc P f.params.toList s.vars false W args.toList ds [] before) (hv : s.vars = []) (hr : f.resultTypes = #[tb]) (htb : P.underlying tb = some .bool)
    (hfn : s.fn H (ds ++ []) = { results := [.lit (.bool true)], args := ds }) (hp : ∀ t ∈ f.params.toList, P.readableRec t = true ∧ t < P.types.size) (hb : Below W.heap.size W W') :
    s.post enc P f false true false false W args (.bool true) W' := by
  have hlt := hW.lt
  have hW' := hW
  obtain ⟨p, q, hA, hV, hpq, _, _⟩ := hW
  refine ⟨ds, [], before, [], before, [], hW', ?_, ?_, ?_, hb.frame _, fun h => by cases h⟩
  · rw [hfn, hr]
    exact trodAll_mk1 (shut_bool htb true)
  · rw [hfn]
    rw [hv] at hV
    simp only [DataW.TrodVars] at hV
    subst hV
    simp only [List.append_nil] at hpq
    subst hpq
    exact trodAll_stays hl hb _ _ _ _ hp hA hlt
  · rw [hv, hfn]
    rfl
end

theorem spot_none {w : World} {a : Addr} {v : Value} (h : w.cell? a = some v) : a = ⟨a.block, a.off, none⟩ := by
  obtain ⟨b, o, s⟩ := a
  cases s with
  | none => rfl
  | some x =>
    simp only [World.cell?] at h
    split at h <;> simp at h

theorem rd_of {P : Program} {ts : List TypeId} (h : ts.all (fun t => P.readableRec t && decide (t < P.types.size)) = true) : ∀ t ∈ ts, P.readableRec t = true ∧ t < P.types.size := fun t ht => by
  have := List.all_eq_true.1 h t ht
  simpa using this
set_option maxRecDepth 100000
section
variable {H : Type} {enc : TypeId × Value → H}
theorem str_of_arg {W : World} {r : Reach} {b0 : Nat} {v : Value} {d : DataW H} {p : List MemPlace} (hv : Value.okWide Tryz.prog W r b0 9 v) (h : DataW.Trod enc Tryz.prog W 0 (fun _ => true) true 9 v d p) : ∃ s : ByteArray, v = .string s ∧ s.size ≤ 9223372036854775807 := by
  obtain ⟨s, rfl, _, _, hs⟩ := ChangeMaps.open_string Tryz.underlying9 hv h
  exact ⟨s, rfl, by simpa [maxLen] using hs⟩
theorem int_of_arg {W : World} {r : Reach} {b0 : Nat} {v : Value} {d : DataW H} {p : List MemPlace} (hv : Value.okWide Tryz.prog W r b0 3 v) (h : DataW.Trod enc Tryz.prog W 0 (fun _ => true) true 3 v d p) :
    ∃ n : Int, v = .int .i64 n ∧ -9223372036854775808 ≤ n ∧ n ≤ 9223372036854775807 := by
  obtain ⟨n, rfl⟩ := okWide_int Tryz.underlying3 hv
  obtain ⟨k, hk⟩ := h
  obtain ⟨z1, e1, _, w1⟩ := DataW.trod_int Tryz.underlying3 hk
  simp only [Value.cells] at e1
  injection e1 with e1 _
  injection e1 with _ e1
  subst e1
  simp [Lit.wf, IntKind.min, IntKind.max, IntKind.signed, IntKind.bits] at w1
  exact ⟨n, rfl, by omega, by omega⟩
end
end Go.Proofs.YtmhhcfceikcfbaaGreat
