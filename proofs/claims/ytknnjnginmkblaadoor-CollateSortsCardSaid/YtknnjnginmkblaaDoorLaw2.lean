/- Arguments that come in: options, three strings, an integer, strings. -/
import Derived.Test.YtknnjnginmkblaaDoorLaw
namespace Go.Proofs.YtknnjnginmkblaaDoor
open Go.ChangeShapes Go.WideShapes Go.ChangeAt Go.RowKit Go.Joins Go.Deep
set_option maxRecDepth 100000
section
variable {H : Type} {enc : TypeId × Value → H}
theorem Tryd.cells23 : Tryd.prog.cellsOf 23 = 4 := by kernel_rfl
theorem Tryd.cells40 : Tryd.prog.cellsOf 40 = 3 := by kernel_rfl
/-- Options that came in. -/
theorem opt_of_arg {W : World} {r : Reach} {b0 : Nat} {v : Value} {d : DataW H} {p : List MemPlace} (hv : Value.okWide Tryd.prog W r b0 23 v) (h : DataW.Trod enc Tryd.prog W 0 (fun _ => true) true 23 v d p) :
    ∃ o : Opt, v = optV o ∧ -9223372036854775808 ≤ o.strength ∧ o.strength ≤ 9223372036854775807 := by
  obtain ⟨v0, v1, v2, v3, y0, y1, y2, y3, n, rfl, _, _, h0, h1, h2, h3⟩ := open_agg4 Tryd.underlying23 (by kernel_rfl) Tryd.cells23 hv h
  obtain ⟨z0, e0, _, w0⟩ := DataW.trod_int Tryd.underlying3 h0
  obtain ⟨z1, e1, _⟩ := DataW.trod_bool Tryd.underlying4 h1
  obtain ⟨z2, e2, _⟩ := DataW.trod_bool Tryd.underlying4 h2
  obtain ⟨z3, e3, _⟩ := DataW.trod_bool Tryd.underlying4 h3
  injection e0 with e0 _
  injection e1 with e1 _
  injection e2 with e2 _
  injection e3 with e3 _
  subst e0 e1 e2 e3
  refine ⟨⟨z0, z1, z2, z3⟩, rfl, ?_⟩
  simp [Lit.wf, IntKind.min, IntKind.max, IntKind.signed, IntKind.bits] at w0
  exact ⟨by simp only; omega, by simp only; omega⟩
/-- Three strings that came in. -/
theorem three_of_arg {W : World} {r : Reach} {b0 : Nat} {v : Value} {d : DataW H} {p : List MemPlace} (hv : Value.okWide Tryd.prog W r b0 40 v) (h : DataW.Trod enc Tryd.prog W 0 (fun _ => true) true 40 v d p) :
    ∃ a b c : ByteArray, v = .agg #[.string a, .string b, .string c] ∧ True := by
  obtain ⟨v0, v1, v2, y0, y1, y2, n, rfl, _, _, h0, h1, h2⟩ := open_agg3 Tryd.underlying40 (by kernel_rfl) Tryd.cells40 hv h
  obtain ⟨z0, e0, _⟩ := DataW.trod_string Tryd.underlying9 h0
  obtain ⟨z1, e1, _⟩ := DataW.trod_string Tryd.underlying9 h1
  obtain ⟨z2, e2, _⟩ := DataW.trod_string Tryd.underlying9 h2
  injection e0 with e0 _
  injection e1 with e1 _
  injection e2 with e2 _
  exact ⟨z0, z1, z2, by rw [e0, e1, e2], trivial⟩
theorem int_of_arg {W : World} {r : Reach} {b0 : Nat} {v : Value} {d : DataW H} {p : List MemPlace} (hv : Value.okWide Tryd.prog W r b0 3 v) (h : DataW.Trod enc Tryd.prog W 0 (fun _ => true) true 3 v d p) :
    ∃ n : Int, v = .int .i64 n ∧ -9223372036854775808 ≤ n ∧ n ≤ 9223372036854775807 := by
  obtain ⟨n, rfl⟩ := okWide_int Tryd.underlying3 hv
  obtain ⟨k, hk⟩ := h
  obtain ⟨z1, e1, _, w1⟩ := DataW.trod_int Tryd.underlying3 hk
  simp only [Value.cells] at e1
  injection e1 with e1 _
  injection e1 with _ e1
  subst e1
  simp [Lit.wf, IntKind.min, IntKind.max, IntKind.signed, IntKind.bits] at w1
  exact ⟨n, rfl, by omega, by omega⟩
end
end Go.Proofs.YtknnjnginmkblaaDoor
