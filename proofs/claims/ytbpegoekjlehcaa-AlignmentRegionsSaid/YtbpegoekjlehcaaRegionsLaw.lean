/- AlignmentRegions: for every pair of lists and all pairs the law returns true and leaves its arguments as they were. No condition. -/
import Derived.Test.YtbpegoekjlehcaaRegions
namespace Go.Proofs.Ytbpegoekjlehcaa
open Go.ChangeShapes Go.WideShapes Go.ChangeAt Go.RowKit

theorem rd_of {P : Program} {ts : List TypeId} (h : ts.all (fun t => P.readableRec t && decide (t < P.types.size)) = true) : ∀ t ∈ ts, P.readableRec t = true ∧ t < P.types.size := fun t ht => by
  have := List.all_eq_true.1 h t ht
  simpa using this
theorem rd10 : Try.f10.params.toList.all (fun t => Try.prog.readableRec t && decide (t < Try.prog.types.size)) = true := by kernel_rfl

set_option maxRecDepth 100000 in
theorem regions_lifted (os : Os) (started : os.Started) (H : Type) (enc : TypeId × Value → H) :
    ReturnsInHanded {} Try.checked os 10 .any (Rows.alignmentRegionsSpec.pre6 enc Try.prog Try.f10 Rows.alignmentRegionsRow.domain false) (Rows.alignmentRegionsSpec.post enc Try.prog Try.f10 false true false false) := by
  refine returnsInHanded_of_change (C := Try.checked) Try.own started (by kernel_rfl) Try.func10
    (ChangeSpec.witness6 (enc := enc) (C := Try.checked) false ⟨#[], #[.agg #[.slice none 0 0, .slice none 0 0], .slice none 0 0], []⟩ 8 (by kernel_rfl) (by kernel_rfl) (by kernel_rfl) (by kernel_rfl)) ?_
  intro W base args ds gs before hval0 hW _ _
  have hval : ∀ (j : Nat) t v, Try.f10.params[j]? = some t → args[j]? = some v → Value.okWide Try.prog W .any base t v := hval0
  have hW' : DataW.Whole enc Try.prog Try.f10.params.toList Rows.alignmentRegionsSpec.vars false W args.toList ds gs before := hW
  obtain ⟨p, q, hA0, hV, _, _, _⟩ := hW'
  have hA : DataW.TrodAll enc Try.prog W 0 (fun _ => true) true Try.f10.params.toList args.toList ds p := hA0
  rw [Try.params10] at hA hval
  obtain ⟨v0, v1, d0, d1, p0, p1, rfl, rfl, rfl, h0, h1⟩ := trodAll_two hA
  obtain ⟨rfl, rfl⟩ := trodVars_none hV
  obtain ⟨va, vb, a, b, rfl, ha, hb⟩ := two_of_arg (hval 0 24 v0 rfl rfl) h0
  obtain ⟨l1, hl1⟩ := prs_of_arg (hval 1 26 v1 rfl rfl) h1
  refine (regions_any va vb v1 a b l1 W ha hb hl1).mono fun e W' ⟨he, hw⟩ => ?_
  subst he
  exact ⟨_, rfl, law_post Try.laidOut hW rfl rfl Try.underlying4 rfl (rd_of rd10) hw⟩

theorem regions_holds : Rows.AlignmentRegionsSaid :=
  OpenClaim.holds_of_wide 10 Try.f10 rfl rfl rfl rfl rfl rfl rfl ⟨rfl, rfl, rfl, rfl, rfl⟩ rfl rfl rfl rfl rfl (by kernel_rfl) Try.func10 (by kernel_rfl)
    (of_decide_eq_true (by kernel_rfl)) (by unfold Func.isWrapper; rw [if_neg (of_decide_eq_false (by kernel_rfl))]; exact ⟨rfl, rfl⟩)
    (fun os started H enc _ => regions_lifted os started H enc)
#print axioms regions_holds
end Go.Proofs.Ytbpegoekjlehcaa
