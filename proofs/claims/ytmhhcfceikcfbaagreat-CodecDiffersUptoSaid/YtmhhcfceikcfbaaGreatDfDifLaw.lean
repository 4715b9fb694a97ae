/- CodecDiffers: for a document, a document (values and letters at most 1048576 in all) the law returns true. Condition: that bulk. -/
import Derived.JoinedCond
import Derived.Test.YtmhhcfceikcfbaaGreatDfDif
namespace Go.Proofs.YtmhhcfceikcfbaaGreat
open Go.ChangeShapes Go.WideShapes Go.ChangeAt Go.RowKit
theorem rd5 : Tryz.f5.params.toList.all (fun t => Tryz.prog.readableRec t && decide (t < Tryz.prog.types.size)) = true := by kernel_rfl
set_option maxRecDepth 100000 in
theorem differs_lifted (os : Os) (started : os.Started) (H : Type) (enc : TypeId × Value → H) (F0 : Stop.Interp) :
  ReturnsInHanded {} Tryz.checked os 5 .any ((Rows.OpenSpec.upto Rows.codecDiffersSpec).pre6 enc Tryz.prog Tryz.f5 Rows.codecDiffersUptoRow.domain false) (((Rows.OpenSpec.upto Rows.codecDiffersSpec).at F0).post enc Tryz.prog Tryz.f5 false true false false) := by
 refine returnsInHanded_of_cond (C := Tryz.checked) (s := Rows.OpenSpec.upto Rows.codecDiffersSpec) (k := Rows.uptoSmall) rfl Tryz.own started (by kernel_rfl) Tryz.func5
  (OpenSpec.witness (enc := enc) (C := Tryz.checked) (s := Rows.OpenSpec.upto Rows.codecDiffersSpec) (k := Rows.uptoSmall) rfl false ⟨#[], #[.agg #[.slice none 0 0, .slice none 0 0, .int .i64 0, .int .i64 0, .slice none 0 0, .slice none 0 0, .slice none 0 0, .slice none 0 0, .slice none 0 0, .slice none 0 0, .slice none 0 0], .agg #[.slice none 0 0, .slice none 0 0, .int .i64 0, .int .i64 0, .slice none 0 0, .slice none 0 0, .slice none 0 0, .slice none 0 0, .slice none 0 0, .slice none 0 0, .slice none 0 0]], []⟩ 12 (by kernel_rfl) (by kernel_rfl) (by kernel_rfl)
   (x := ([.agg [.nil, .agg [.nil, .agg [.lit (.int .i64 0), .lit (.int .i64 0), .nil, .nil]], .nil, .agg [.nil, .nil, .nil, .nil]], .agg [.nil, .agg [.nil, .agg [.lit (.int .i64 0), .lit (.int .i64 0), .nil, .nil]], .nil, .agg [.nil, .nil, .nil, .nil]]], [], [])) (by kernel_rfl) rfl (by kernel_rfl)) ?_
 intro W base args ds gs before hval0 hW _ hk0 _
 have hval : ∀ (j : Nat) t v, Tryz.f5.params[j]? = some t → args[j]? = some v → Value.okWide Tryz.prog W .any base t v := hval0
 have hW' : DataW.Whole enc Tryz.prog Tryz.f5.params.toList Rows.codecDiffersSpec.vars false W args.toList ds gs before := hW
 obtain ⟨p, q, hA0, hV, _, _, _⟩ := hW'
 have hA : DataW.TrodAll enc Tryz.prog W 0 (fun _ => true) true Tryz.f5.params.toList args.toList ds p := hA0
 rw [Tryz.params5] at hA hval
 obtain ⟨v0, v1, d0, d1, p0, p1, rfl, rfl, rfl, h0, h1⟩ := trodAll_two hA
 obtain ⟨rfl, rfl⟩ := trodVars_none hV
 have hk1 : Rows.uptoBulkAll [d0, d1] ≤ 1048576 := of_decide_eq_true hk0
 simp only [Rows.uptoBulkAll] at hk1
 have hb0 : Rows.uptoBulk d0 ≤ 1048576 := by omega
 obtain ⟨m0, D0⟩ := doc_of_arg (hval 0 49 v0 rfl rfl) h0 hb0
 have hb1 : Rows.uptoBulk d1 ≤ 1048576 := by omega
 obtain ⟨m1, D1⟩ := doc_of_arg (hval 1 49 v1 rfl rfl) h1 hb1
 obtain ⟨vs0, x0, rfl, hl0, hR0, hz0⟩ := D0 (max m0 m1) (by omega)
 obtain ⟨vs1, x1, rfl, hl1, hR1, hz1⟩ := D1 (max m0 m1) (by omega)
 refine (differs_any (max m0 m1) (fun b => b < W.heap.size) W vs0 vs1 x0 x1 hR0 hR1 (fun b h => h) hz0 hz1).mono fun e W' ⟨he, hw⟩ => ?_
 subst he
 exact ⟨_, rfl, law_post Tryz.laidOut hW rfl rfl Tryz.underlying4 rfl (rd_of rd5) hw⟩
theorem differs_holds : Rows.CodecDiffersUptoSaid :=
 OpenClaim.holds_of_cond 5 Tryz.f5 rfl rfl rfl rfl rfl rfl rfl ⟨rfl, rfl, rfl, rfl, rfl⟩ rfl rfl rfl rfl rfl (by kernel_rfl) Tryz.func5 (by kernel_rfl)
  (of_decide_eq_true (by kernel_rfl)) (by unfold Func.isWrapper; rw [if_neg (of_decide_eq_false (by kernel_rfl))]; exact ⟨rfl, rfl⟩)
  (fun os started H enc _ F0 => differs_lifted os started H enc F0)
#print axioms differs_holds
end Go.Proofs.YtmhhcfceikcfbaaGreat
