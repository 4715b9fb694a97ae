/- ArchiveDamages: for any list of parts, any damage the law returns true. No condition. -/
import Derived.Test.YtdnaifkcogadkaaDamages
import Derived.Test.YtdnaifkcogadkaaLaw
namespace Go.Proofs.Ytdnaifkcogadkaa
open Go.ChangeShapes Go.WideShapes Go.ChangeAt Go.RowKit

theorem rd9 : Try.f9.params.toList.all (fun t => Try.prog.readableRec t && decide (t < Try.prog.types.size)) = true := by kernel_rfl

set_option maxRecDepth 100000 in
theorem damages_lifted (os : Os) (started : os.Started) (H : Type) (enc : TypeId × Value → H) :
    ReturnsInHanded {} Try.checked os 9 .any (Rows.archiveDamagesSpec.pre6 enc Try.prog Try.f9 Rows.archiveDamagesRow.domain false) (Rows.archiveDamagesSpec.post enc Try.prog Try.f9 false true false false) := by
  refine returnsInHanded_of_change (C := Try.checked) Try.own started (by kernel_rfl) Try.func9
    (ChangeSpec.witness6 (enc := enc) (C := Try.checked) false ⟨#[], #[.slice none 0 0, .agg #[.int .u16 0, .int .u8 0]], []⟩ 8 (by kernel_rfl) (by kernel_rfl) (by kernel_rfl) (by kernel_rfl)) ?_
  intro W base args ds gs before hval0 hW _ _
  have hval : ∀ (j : Nat) t v, Try.f9.params[j]? = some t → args[j]? = some v → Value.okWide Try.prog W .any base t v := hval0
  have hW' : DataW.Whole enc Try.prog Try.f9.params.toList Rows.archiveDamagesSpec.vars false W args.toList ds gs before := hW
  obtain ⟨p, q, hA0, hV, _, _, _⟩ := hW'
  have hA : DataW.TrodAll enc Try.prog W 0 (fun _ => true) true Try.f9.params.toList args.toList ds p := hA0
  rw [Try.params9] at hA hval
  obtain ⟨v0, v1, d0, d1, p0, p1, rfl, rfl, rfl, h0, h1⟩ := trodAll_two hA
  obtain ⟨rfl, rfl⟩ := trodVars_none hV
  obtain ⟨l0, hl0⟩ := parts_of_arg (hval 0 22 v0 rfl rfl) h0
  obtain ⟨at1, xo1, rfl, ha1, hx1⟩ := dmg_of_arg (hval 1 31 v1 rfl rfl) h1
  refine (damages_any v0 l0 at1 xo1 W hl0 ha1 hx1).mono fun e W' ⟨he, hw⟩ => ?_
  subst he
  exact ⟨_, rfl, law_post Try.laidOut hW rfl rfl Try.underlying4 rfl (rd_of rd9) hw⟩

theorem damages_holds : Rows.ArchiveDamagesSaid :=
  OpenClaim.holds_of_wide 9 Try.f9 rfl rfl rfl rfl rfl rfl rfl ⟨rfl, rfl, rfl, rfl, rfl⟩ rfl rfl rfl rfl rfl (by kernel_rfl) Try.func9 (by kernel_rfl)
    (of_decide_eq_true (by kernel_rfl)) (by unfold Func.isWrapper; rw [if_neg (of_decide_eq_false (by kernel_rfl))]; exact ⟨rfl, rfl⟩)
    (fun os started H enc _ => damages_lifted os started H enc)
#print axioms damages_holds
end Go.Proofs.Ytdnaifkcogadkaa
