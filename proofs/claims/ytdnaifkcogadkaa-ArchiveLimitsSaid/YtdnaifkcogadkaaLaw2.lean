/- Arguments that come in: a part, a byte. -/
import Derived.Test.YtdnaifkcogadkaaLaw
namespace Go.Proofs.Ytdnaifkcogadkaa
open Go.ChangeShapes Go.WideShapes Go.ChangeAt Go.RowKit Go.Joins Go.Deep
set_option maxRecDepth 100000
section
variable {H : Type} {enc : TypeId × Value → H}
theorem Try.cells38 : Try.prog.cellsOf 38 = 2 := by kernel_rfl
/-- A part that came in. -/
theorem part_of_arg {W : World} {r : Reach} {b0 : Nat} {v : Value} {d : DataW H} {p : List MemPlace} (hv : Value.okWide Try.prog W r b0 38 v) (h : DataW.Trod enc Try.prog W 0 (fun _ => true) true 38 v d p) :
    ∃ a b : ByteArray, v = .agg #[.string a, .string b] := by
  obtain ⟨v0, v1, y0, y1, n, rfl, _, _, h0, h1⟩ := open_agg2 Try.underlying38 (by kernel_rfl) Try.cells38 hv h
  obtain ⟨z0, e0, _⟩ := DataW.trod_string Try.underlying9 h0
  obtain ⟨z1, e1, _⟩ := DataW.trod_string Try.underlying9 h1
  injection e0 with e0 _
  injection e1 with e1 _
  exact ⟨z0, z1, by rw [e0, e1]⟩
/-- A byte that came in. -/
theorem byte_of_arg {W : World} {r : Reach} {b0 : Nat} {v : Value} {d : DataW H} {p : List MemPlace} (hv : Value.okWide Try.prog W r b0 5 v) (h : DataW.Trod enc Try.prog W 0 (fun _ => true) true 5 v d p) :
    ∃ c : Nat, v = .int .u8 c ∧ c < 256 := by
  obtain ⟨n, rfl⟩ := okWide_int Try.underlying5 hv
  obtain ⟨k, hk⟩ := h
  obtain ⟨z1, e1, _, w1⟩ := DataW.trod_int Try.underlying5 hk
  simp only [Value.cells] at e1
  injection e1 with e1 _
  injection e1 with _ e1
  subst e1
  have k1 : 0 ≤ n ∧ n < 256 := by
    simp [Lit.wf, IntKind.min, IntKind.max, IntKind.signed, IntKind.bits] at w1; omega
  exact ⟨n.toNat, by rw [Int.toNat_of_nonneg k1.1], by omega⟩
end
end Go.Proofs.Ytdnaifkcogadkaa
