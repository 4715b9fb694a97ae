/- The readings of the arguments, more: small arrays of numbers. -/
import Derived.Test.YtpcjklfdgjeamaaLaw2
namespace Go.Proofs.Ytpcjklfdgjeamaa
open Go.ChangeShapes Go.WideShapes Go.ChangeAt Go.RowKit Go.Joins Go.Deep

section
variable {H : Type} {enc : TypeId × Value → H} {P : Program}
theorem okWide_array {r : Reach} {b0 n : Nat} {W : World} {t e : TypeId} {v : Value} (ht : P.underlying t = some (.array n e)) (h : Value.okWide P W r b0 t v) : ∃ cs : Array Value, v = .agg cs ∧ cs.size = P.cellsOf t := by
  simp only [Value.okWide, ht] at h
  obtain ⟨cs, h1, h2, _⟩ := h
  exact ⟨cs, h1, h2⟩
/-- An array of numbers that came in. -/
theorem nums_of_arg {r : Reach} {b0 n : Nat} {W : World} {t e : TypeId} {k : IntKind} {v : Value} {d : DataW H} {p : List MemPlace} (ht : P.underlying t = some (.array n e)) (he : P.underlying e = some (.int k)) (hc : P.cellsOf e = 1) (hC : P.cellsOf t = n)
    (hv : Value.okWide P W r b0 t v) (h : DataW.Trod enc P W 0 (fun _ => true) true t v d p) : ∃ cs : Array Value, v = .agg cs ∧ cs.size = n ∧ ∀ i, i < n → ∃ z, cs[i]? = some (.int k z) ∧ (Lit.int k z).wf = true := by
  obtain ⟨cs, rfl, hs⟩ := okWide_array ht hv
  obtain ⟨fuel, hf⟩ := h
  obtain ⟨xs, m, _, _, hl, hlen, hx⟩ := DataW.trod_array ht hf
  rw [hC] at hs
  refine ⟨cs, rfl, hs, fun i hi => ?_⟩
  have h1 := hx i hi
  rw [hc, Nat.mul_one] at h1
  have hci : cs.toList[i]? = some (cs.toList[i]'(by simp; omega)) := List.getElem?_eq_getElem _
  obtain ⟨z, hz, hw⟩ := int_field (P := P) (t := e) (o := i) he hc (by rw [hc]; exact h1) (by omega) hci
  refine ⟨z, ?_, hw⟩
  rw [← hz, Array.getElem?_eq_getElem (by omega)]
  simp
end
theorem arr2 {cs : Array Value} {k : IntKind} (hs : cs.size = 2) (h : ∀ i, i < 2 → ∃ z, cs[i]? = some (.int k z) ∧ (Lit.int k z).wf = true) : ∃ a b, cs = #[.int k a, .int k b] ∧ (Lit.int k a).wf = true ∧ (Lit.int k b).wf = true := by
  obtain ⟨a, ha, wa⟩ := h 0 (by omega)
  obtain ⟨b, hb, wb⟩ := h 1 (by omega)
  obtain ⟨l⟩ := cs
  match l, hs with
  | [c0, c1], _ =>
    simp at ha hb
    subst ha hb
    exact ⟨a, b, rfl, wa, wb⟩
theorem arr4 {cs : Array Value} {k : IntKind} (hs : cs.size = 4) (h : ∀ i, i < 4 → ∃ z, cs[i]? = some (.int k z) ∧ (Lit.int k z).wf = true) : ∃ a b c d, cs = #[.int k a, .int k b, .int k c, .int k d] ∧ (Lit.int k a).wf = true ∧ (Lit.int k b).wf = true ∧ (Lit.int k c).wf = true ∧ (Lit.int k d).wf = true := by
  obtain ⟨a, ha, wa⟩ := h 0 (by omega)
  obtain ⟨b, hb, wb⟩ := h 1 (by omega)
  obtain ⟨c, hc, wc⟩ := h 2 (by omega)
  obtain ⟨d, hd, wd⟩ := h 3 (by omega)
  obtain ⟨l⟩ := cs
  match l, hs with
  | [c0, c1, c2, c3], _ =>
    simp at ha hb hc hd
    subst ha hb hc hd
    exact ⟨a, b, c, d, rfl, wa, wb, wc, wd⟩
section
variable {H : Type} {enc : TypeId × Value → H}
theorem ints2_of_arg {W : World} {r : Reach} {b0 : Nat} {v : Value} {d : DataW H} {p : List MemPlace} (hv : Value.okWide Try.prog W r b0 45 v) (h : DataW.Trod enc Try.prog W 0 (fun _ => true) true 45 v d p) :
    ∃ a b : Int, v = .agg #[.int .i64 a, .int .i64 b] ∧ (Lit.int .i64 a).wf = true ∧ (Lit.int .i64 b).wf = true := by
  obtain ⟨cs, rfl, hs, hx⟩ := nums_of_arg Try.underlying45 Try.underlying3 Try.c3 (by kernel_rfl) hv h
  obtain ⟨a, b, rfl, wa, wb⟩ := arr2 hs hx
  exact ⟨a, b, rfl, wa, wb⟩
theorem bytes2_of_arg {W : World} {r : Reach} {b0 : Nat} {v : Value} {d : DataW H} {p : List MemPlace} (hv : Value.okWide Try.prog W r b0 58 v) (h : DataW.Trod enc Try.prog W 0 (fun _ => true) true 58 v d p) :
    ∃ a b : Nat, v = .agg #[.int .u8 a, .int .u8 b] ∧ a < 256 ∧ b < 256 := by
  obtain ⟨cs, rfl, hs, hx⟩ := nums_of_arg Try.underlying58 Try.underlying5 Try.c5 (by kernel_rfl) hv h
  obtain ⟨a, b, rfl, wa, wb⟩ := arr2 hs hx
  obtain ⟨a, rfl, ha⟩ := wf8 wa
  obtain ⟨b, rfl, hb⟩ := wf8 wb
  exact ⟨a, b, rfl, ha, hb⟩
theorem bytes4_of_arg {W : World} {r : Reach} {b0 : Nat} {v : Value} {d : DataW H} {p : List MemPlace} (hv : Value.okWide Try.prog W r b0 52 v) (h : DataW.Trod enc Try.prog W 0 (fun _ => true) true 52 v d p) :
    ∃ a b c e : Nat, v = .agg #[.int .u8 a, .int .u8 b, .int .u8 c, .int .u8 e] ∧ a < 256 ∧ b < 256 ∧ c < 256 ∧ e < 256 := by
  obtain ⟨cs, rfl, hs, hx⟩ := nums_of_arg Try.underlying52 Try.underlying5 Try.c5 (by kernel_rfl) hv h
  obtain ⟨a, b, c, e, rfl, wa, wb, wc, we⟩ := arr4 hs hx
  obtain ⟨a, rfl, ha⟩ := wf8 wa
  obtain ⟨b, rfl, hb⟩ := wf8 wb
  obtain ⟨c, rfl, hc⟩ := wf8 wc
  obtain ⟨e, rfl, he⟩ := wf8 we
  exact ⟨a, b, c, e, rfl, ha, hb, hc, he⟩
end
theorem wf64 {z : Int} (h : (Lit.int .i64 z).wf = true) : -9223372036854775808 ≤ z ∧ z ≤ 9223372036854775807 := by
  simp [Lit.wf, IntKind.min, IntKind.max, IntKind.signed, IntKind.bits] at h
  omega
end Go.Proofs.Ytpcjklfdgjeamaa
