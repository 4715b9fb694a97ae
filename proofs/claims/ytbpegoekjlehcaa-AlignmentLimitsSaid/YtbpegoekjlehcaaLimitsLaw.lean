/- AlignmentLimits: for every choice and every weight the law returns true. No condition. -/
import Derived.Test.YtbpegoekjlehcaaLimits
namespace Go.Proofs.Ytbpegoekjlehcaa
open Go.ChangeShapes Go.WideShapes Go.ChangeAt Go.RowKit

theorem rd_of {P : Program} {ts : List TypeId} (h : ts.all (fun t => P.readableRec t && decide (t < P.types.size)) = true) : ∀ t ∈ ts, P.readableRec t = true ∧ t < P.types.size := fun t ht => by
  have := List.all_eq_true.1 h t ht
  simpa using this
theorem rd8 : Try.f8.params.toList.all (fun t => Try.prog.readableRec t && decide (t < Try.prog.types.size)) = true := by kernel_rfl

set_option maxRecDepth 100000 in
theorem limits_lifted (os : Os) (started : os.Started) (H : Type) (enc : TypeId × Value → H) :
    ReturnsInHanded {} Try.checked os 8 .any (Rows.alignmentLimitsSpec.pre6 enc Try.prog Try.f8 Rows.alignmentLimitsRow.domain false) (Rows.alignmentLimitsSpec.post enc Try.prog Try.f8 false true false false) := by
  refine returnsInHanded_of_change (C := Try.checked) Try.own started (by kernel_rfl) Try.func8
    (ChangeSpec.witness6 (enc := enc) (C := Try.checked) false ⟨#[], #[.bool false, .int .i64 0], []⟩ 8 (by kernel_rfl) (by kernel_rfl) (by kernel_rfl) (by kernel_rfl)) ?_
  intro W base args ds gs before hval0 hW _ _
  have hval : ∀ (j : Nat) t v, Try.f8.params[j]? = some t → args[j]? = some v → Value.okWide Try.prog W .any base t v := hval0
  have hW' : DataW.Whole enc Try.prog Try.f8.params.toList Rows.alignmentLimitsSpec.vars false W args.toList ds gs before := hW
  obtain ⟨p, q, hA0, hV, _, _, _⟩ := hW'
  have hA : DataW.TrodAll enc Try.prog W 0 (fun _ => true) true Try.f8.params.toList args.toList ds p := hA0
  rw [Try.params8] at hA hval
  obtain ⟨v0, v1, d0, d1, p0, p1, rfl, rfl, rfl, h0, h1⟩ := trodAll_two hA
  obtain ⟨rfl, rfl⟩ := trodVars_none hV
  obtain ⟨b0, rfl, _⟩ := open_bool Try.underlying4 (hval 0 4 v0 rfl rfl) h0
  obtain ⟨g1, rfl, _, _, wg1⟩ := open_int Try.underlying3 (hval 1 3 v1 rfl rfl) h1
  refine (limits_any b0 g1 W ).mono fun e W' ⟨he, hw⟩ => ?_
  subst he
  exact ⟨_, rfl, law_post Try.laidOut hW rfl rfl Try.underlying4 rfl (rd_of rd8) hw⟩

theorem limits_holds : Rows.AlignmentLimitsSaid :=
  OpenClaim.holds_of_wide 8 Try.f8 rfl rfl rfl rfl rfl rfl rfl ⟨rfl, rfl, rfl, rfl, rfl⟩ rfl rfl rfl rfl rfl (by kernel_rfl) Try.func8 (by kernel_rfl)
    (of_decide_eq_true (by kernel_rfl)) (by unfold Func.isWrapper; rw [if_neg (of_decide_eq_false (by kernel_rfl))]; exact ⟨rfl, rfl⟩)
    (fun os started H enc _ => limits_lifted os started H enc)
#print axioms limits_holds
end Go.Proofs.Ytbpegoekjlehcaa
