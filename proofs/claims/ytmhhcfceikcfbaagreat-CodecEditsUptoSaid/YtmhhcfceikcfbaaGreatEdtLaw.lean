/- CodecEdits: for an edit (values and letters at most 1048576 in all) the law returns true. Condition: that bulk. -/
import Derived.Test.YtmhhcfceikcfbaaGreatEdt
import Derived.Test.YtmhhcfceikcfbaaGreatT3
import Derived.Test.YtmhhcfceikcfbaaGreatLaw
import Derived.JoinedCond
namespace Go.Proofs.YtmhhcfceikcfbaaGreat
open Go.ChangeShapes Go.WideShapes Go.ChangeAt Go.RowKit

theorem rd7 : Tryz.f7.params.toList.all (fun t => Tryz.prog.readableRec t && decide (t < Tryz.prog.types.size)) = true := by kernel_rfl

set_option maxRecDepth 100000 in
theorem edits_lifted (os : Os) (started : os.Started) (H : Type) (enc : TypeId × Value → H) (F0 : Stop.Interp) :
    ReturnsInHanded {} Tryz.checked os 7 .any ((Rows.OpenSpec.upto Rows.codecEditsSpec).pre6 enc Tryz.prog Tryz.f7 Rows.codecEditsUptoRow.domain false) (((Rows.OpenSpec.upto Rows.codecEditsSpec).at F0).post enc Tryz.prog Tryz.f7 false true false false) := by
  refine returnsInHanded_of_cond (C := Tryz.checked) (s := Rows.OpenSpec.upto Rows.codecEditsSpec) (k := Rows.uptoSmall) rfl Tryz.own started (by kernel_rfl) Tryz.func7
    (OpenSpec.witness (enc := enc) (C := Tryz.checked) (s := Rows.OpenSpec.upto Rows.codecEditsSpec) (k := Rows.uptoSmall) rfl false ⟨#[], #[.agg #[.int .i64 0, .int .i64 0, .int .i64 0, .int .i64 0, .int .i64 0, .int .i64 0, .int .i64 0, .int .i64 0, .int .i64 0, .int .i64 0, .bool false, .slice none 0 0, .slice none 0 0, .slice none 0 0, .slice none 0 0, .slice none 0 0, .slice none 0 0, .slice none 0 0]], []⟩ 12 (by kernel_rfl) (by kernel_rfl) (by kernel_rfl)
      (x := ([.agg [.lit (.int .i64 0), .lit (.int .i64 0), .lit (.int .i64 0), .lit (.int .i64 0), .lit (.int .i64 0), .lit (.int .i64 0), .lit (.int .i64 0), .lit (.int .i64 0), .lit (.int .i64 0), .lit (.int .i64 0), .lit (.bool false), .nil, .nil, .nil, .agg [.nil, .nil, .nil, .nil]]], [], [])) (by kernel_rfl) rfl (by kernel_rfl)) ?_
  intro W base args ds gs before hval0 hW _ hk0 _
  have hval : ∀ (j : Nat) t v, Tryz.f7.params[j]? = some t → args[j]? = some v → Value.okWide Tryz.prog W .any base t v := hval0
  have hW' : DataW.Whole enc Tryz.prog Tryz.f7.params.toList Rows.codecEditsSpec.vars false W args.toList ds gs before := hW
  obtain ⟨p, q, hA0, hV, _, _, _⟩ := hW'
  have hA : DataW.TrodAll enc Tryz.prog W 0 (fun _ => true) true Tryz.f7.params.toList args.toList ds p := hA0
  rw [Tryz.params7] at hA hval
  obtain ⟨v0, d0, rfl, rfl, h0⟩ := trodAll_one hA
  obtain ⟨rfl, rfl⟩ := trodVars_none hV
  have hk1 : Rows.uptoBulkAll [d0] ≤ 1048576 := of_decide_eq_true hk0
  simp only [Rows.uptoBulkAll] at hk1
  have hb0 : Rows.uptoBulk d0 ≤ 1048576 := by omega
  obtain ⟨n0, hn0, vs0, x0, rfl, hl0, hR0, hz0⟩ := edit_of_arg (hval 0 68 v0 rfl rfl) h0 hb0 10485761
  refine (edits_any n0 (fun b => b < W.heap.size) W vs0 x0 hR0 (fun b h => h) hz0 (by omega)).mono fun e W' ⟨he, hw⟩ => ?_
  subst he
  exact ⟨_, rfl, law_post Tryz.laidOut hW rfl rfl Tryz.underlying4 rfl (rd_of rd7) hw⟩

theorem edits_holds : Rows.CodecEditsUptoSaid :=
  OpenClaim.holds_of_cond 7 Tryz.f7 rfl rfl rfl rfl rfl rfl rfl ⟨rfl, rfl, rfl, rfl, rfl⟩ rfl rfl rfl rfl rfl (by kernel_rfl) Tryz.func7 (by kernel_rfl)
    (of_decide_eq_true (by kernel_rfl)) (by unfold Func.isWrapper; rw [if_neg (of_decide_eq_false (by kernel_rfl))]; exact ⟨rfl, rfl⟩)
    (fun os started H enc _ F0 => edits_lifted os started H enc F0)
#print axioms edits_holds
end Go.Proofs.YtmhhcfceikcfbaaGreat
