/- CodecNumbers: for any number, any string, any string the law returns true. No condition. -/
import Derived.Test.YtmhhcfceikcfbaaGreatNumbers
import Derived.Test.YtmhhcfceikcfbaaGreatLaw
namespace Go.Proofs.YtmhhcfceikcfbaaGreat
open Go.ChangeShapes Go.WideShapes Go.ChangeAt Go.RowKit

theorem rd3 : Tryz.f3.params.toList.all (fun t => Tryz.prog.readableRec t && decide (t < Tryz.prog.types.size)) = true := by kernel_rfl

set_option maxRecDepth 100000 in
theorem numbers_lifted (os : Os) (started : os.Started) (H : Type) (enc : TypeId × Value → H) :
    ReturnsInHanded {} Tryz.checked os 3 .any (Rows.codecNumbersSpec.pre6 enc Tryz.prog Tryz.f3 Rows.codecNumbersRow.domain false) (Rows.codecNumbersSpec.post enc Tryz.prog Tryz.f3 false true false false) := by
  refine returnsInHanded_of_change (C := Tryz.checked) Tryz.own started (by kernel_rfl) Tryz.func3
    (ChangeSpec.witness6 (enc := enc) (C := Tryz.checked) false ⟨#[], #[.int .i64 0, .string ⟨#[]⟩, .string ⟨#[]⟩], []⟩ 8 (by kernel_rfl) (by kernel_rfl) (by kernel_rfl) (by kernel_rfl)) ?_
  intro W base args ds gs before hval0 hW _ _
  have hval : ∀ (j : Nat) t v, Tryz.f3.params[j]? = some t → args[j]? = some v → Value.okWide Tryz.prog W .any base t v := hval0
  have hW' : DataW.Whole enc Tryz.prog Tryz.f3.params.toList Rows.codecNumbersSpec.vars false W args.toList ds gs before := hW
  obtain ⟨p, q, hA0, hV, _, _, _⟩ := hW'
  have hA : DataW.TrodAll enc Tryz.prog W 0 (fun _ => true) true Tryz.f3.params.toList args.toList ds p := hA0
  rw [Tryz.params3] at hA hval
  obtain ⟨v0, v1, v2, d0, d1, d2, p0, p1, p2, rfl, rfl, rfl, h0, h1, h2⟩ := trodAll_three hA
  obtain ⟨rfl, rfl⟩ := trodVars_none hV
  obtain ⟨n0, rfl, ha0, hx0⟩ := int_of_arg (hval 0 3 v0 rfl rfl) h0
  obtain ⟨s1, rfl, hs1⟩ := str_of_arg (hval 1 9 v1 rfl rfl) h1
  obtain ⟨s2, rfl, hs2⟩ := str_of_arg (hval 2 9 v2 rfl rfl) h2
  refine (numbers_any n0 s1 s2 W ⟨ha0, hx0⟩).mono fun e W' ⟨he, hw⟩ => ?_
  subst he
  exact ⟨_, rfl, law_post Tryz.laidOut hW rfl rfl Tryz.underlying4 rfl (rd_of rd3) hw⟩

theorem numbers_holds : Rows.CodecNumbersSaid :=
  OpenClaim.holds_of_wide 3 Tryz.f3 rfl rfl rfl rfl rfl rfl rfl ⟨rfl, rfl, rfl, rfl, rfl⟩ rfl rfl rfl rfl rfl (by kernel_rfl) Tryz.func3 (by kernel_rfl)
    (of_decide_eq_true (by kernel_rfl)) (by unfold Func.isWrapper; rw [if_neg (of_decide_eq_false (by kernel_rfl))]; exact ⟨rfl, rfl⟩)
    (fun os started H enc _ => numbers_lifted os started H enc)
#print axioms numbers_holds
end Go.Proofs.YtmhhcfceikcfbaaGreat
