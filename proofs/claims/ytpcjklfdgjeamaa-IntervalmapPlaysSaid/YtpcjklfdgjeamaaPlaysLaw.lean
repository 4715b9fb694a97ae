/- IntervalmapPlays: for every length, value and list of operations the law returns true. No condition. -/
import Derived.Test.YtpcjklfdgjeamaaPlays
import Derived.Test.YtpcjklfdgjeamaaLaw
namespace Go.Proofs.Ytpcjklfdgjeamaa
open Go.ChangeShapes Go.WideShapes Go.ChangeAt Go.RowKit

theorem rd4 : Try.f4.params.toList.all (fun t => Try.prog.readableRec t && decide (t < Try.prog.types.size)) = true := by kernel_rfl

set_option maxRecDepth 100000 in
theorem plays_lifted (os : Os) (started : os.Started) (H : Type) (enc : TypeId × Value → H) :
    ReturnsInHanded {} Try.checked os 4 .any (Rows.intervalmapPlaysSpec.pre6 enc Try.prog Try.f4 Rows.intervalmapPlaysRow.domain false) (Rows.intervalmapPlaysSpec.post enc Try.prog Try.f4 false true false false) := by
  refine returnsInHanded_of_change (C := Try.checked) Try.own started (by kernel_rfl) Try.func4
    (ChangeSpec.witness6 (enc := enc) (C := Try.checked) false ⟨#[], #[.agg #[.int .u8 0, .int .i64 0, .slice none 0 0]], []⟩ 8 (by kernel_rfl) (by kernel_rfl) (by kernel_rfl) (by kernel_rfl)) ?_
  intro W base args ds gs before hval0 hW _ _
  have hval : ∀ (j : Nat) t v, Try.f4.params[j]? = some t → args[j]? = some v → Value.okWide Try.prog W .any base t v := hval0
  have hW' : DataW.Whole enc Try.prog Try.f4.params.toList Rows.intervalmapPlaysSpec.vars false W args.toList ds gs before := hW
  obtain ⟨p, q, hA0, hV, _, _, _⟩ := hW'
  have hA : DataW.TrodAll enc Try.prog W 0 (fun _ => true) true Try.f4.params.toList args.toList ds p := hA0
  rw [Try.params4] at hA hval
  obtain ⟨v0, d0, rfl, rfl, h0⟩ := trodAll_one hA
  obtain ⟨rfl, rfl⟩ := trodVars_none hV
  obtain ⟨P0, hP0⟩ := play_of_arg (hval 0 35 v0 rfl rfl) h0
  refine (plays_any v0 P0 W hP0).mono fun e W' ⟨he, hw⟩ => ?_
  subst he
  exact ⟨_, rfl, law_post Try.laidOut hW rfl rfl Try.underlying4 rfl (rd_of rd4) hw⟩

theorem plays_holds : Rows.IntervalmapPlaysSaid :=
  OpenClaim.holds_of_wide 4 Try.f4 rfl rfl rfl rfl rfl rfl rfl ⟨rfl, rfl, rfl, rfl, rfl⟩ rfl rfl rfl rfl rfl (by kernel_rfl) Try.func4 (by kernel_rfl)
    (of_decide_eq_true (by kernel_rfl)) (by unfold Func.isWrapper; rw [if_neg (of_decide_eq_false (by kernel_rfl))]; exact ⟨rfl, rfl⟩)
    (fun os started H enc _ => plays_lifted os started H enc)
#print axioms plays_holds
end Go.Proofs.Ytpcjklfdgjeamaa
