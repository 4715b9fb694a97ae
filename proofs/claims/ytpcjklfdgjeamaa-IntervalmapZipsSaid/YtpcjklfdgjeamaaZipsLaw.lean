/- IntervalmapZips: for every two plays the law returns true. No condition. -/
import Derived.Test.YtpcjklfdgjeamaaZips
import Derived.Test.YtpcjklfdgjeamaaLaw2
namespace Go.Proofs.Ytpcjklfdgjeamaa
open Go.ChangeShapes Go.WideShapes Go.ChangeAt Go.RowKit

theorem rd10 : Try.f10.params.toList.all (fun t => Try.prog.readableRec t && decide (t < Try.prog.types.size)) = true := by kernel_rfl

set_option maxRecDepth 100000 in
set_option maxHeartbeats 1000000 in
theorem zips_lifted (os : Os) (started : os.Started) (H : Type) (enc : TypeId × Value → H) :
    ReturnsInHanded {} Try.checked os 10 .any (Rows.intervalmapZipsSpec.pre6 enc Try.prog Try.f10 Rows.intervalmapZipsRow.domain false) (Rows.intervalmapZipsSpec.post enc Try.prog Try.f10 false true false false) := by
  refine returnsInHanded_of_change (C := Try.checked) Try.own started (by kernel_rfl) Try.func10
    (ChangeSpec.witness6 (enc := enc) (C := Try.checked) false ⟨#[], #[.agg #[.int .u8 0, .int .i64 0, .slice none 0 0], .agg #[.int .u8 0, .int .i64 0, .slice none 0 0]], []⟩ 8 (by kernel_rfl) (by kernel_rfl) (by kernel_rfl) (by kernel_rfl)) ?_
  intro W base args ds gs before hval0 hW _ _
  have hval : ∀ (j : Nat) t v, Try.f10.params[j]? = some t → args[j]? = some v → Value.okWide Try.prog W .any base t v := hval0
  have hW' : DataW.Whole enc Try.prog Try.f10.params.toList Rows.intervalmapZipsSpec.vars false W args.toList ds gs before := hW
  obtain ⟨p, q, hA0, hV, _, _, _⟩ := hW'
  have hA : DataW.TrodAll enc Try.prog W 0 (fun _ => true) true Try.f10.params.toList args.toList ds p := hA0
  rw [Try.params10] at hA hval
  obtain ⟨v0, v1, d0, d1, p0, p1, rfl, rfl, rfl, h0, h1⟩ := trodAll_two hA
  obtain ⟨rfl, rfl⟩ := trodVars_none hV
  obtain ⟨P0, hP0⟩ := play_of_arg (hval 0 35 v0 rfl rfl) h0
  obtain ⟨P1, hP1⟩ := play_of_arg (hval 1 35 v1 rfl rfl) h1
  refine (zips_any v0 v1 P0 P1 W hP0 hP1).mono fun e W' ⟨he, hw⟩ => ?_
  subst he
  exact ⟨_, rfl, law_post Try.laidOut hW rfl rfl Try.underlying4 rfl (rd_of rd10) hw⟩

theorem zips_holds : Rows.IntervalmapZipsSaid :=
  OpenClaim.holds_of_wide 10 Try.f10 rfl rfl rfl rfl rfl rfl rfl ⟨rfl, rfl, rfl, rfl, rfl⟩ rfl rfl rfl rfl rfl (by kernel_rfl) Try.func10 (by kernel_rfl)
    (of_decide_eq_true (by kernel_rfl)) (by unfold Func.isWrapper; rw [if_neg (of_decide_eq_false (by kernel_rfl))]; exact ⟨rfl, rfl⟩)
    (fun os started H enc _ => zips_lifted os started H enc)
#print axioms zips_holds
end Go.Proofs.Ytpcjklfdgjeamaa
