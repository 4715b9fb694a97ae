/- CodecDocuments: for a document (values and letters at most 1048576 in all) the law returns true. Condition: that bulk. -/
import Derived.JoinedCond
import Derived.Test.YtmhhcfceikcfbaaGreatDcDcs
namespace Go.Proofs.YtmhhcfceikcfbaaGreat
open Go.ChangeShapes Go.WideShapes Go.ChangeAt Go.RowKit
set_option maxRecDepth 100000
set_option maxHeartbeats 4000000
theorem rd11:Tryz.f11.params.toList.all (fun t => Tryz.prog.readableRec t && decide (t < Tryz.prog.types.size)) = true:=by kernel_rfl
theorem documents_lifted (os:Os) (started:os.Started) (H:Type) (enc:TypeId × Value→H) (F0:Stop.Interp) :
  ReturnsInHanded {} Tryz.checked os 11 .any ((Rows.OpenSpec.upto Rows.codecDocumentsSpec).pre6 enc Tryz.prog Tryz.f11 Rows.codecDocumentsUptoRow.domain false) (((Rows.OpenSpec.upto Rows.codecDocumentsSpec).at F0).post enc Tryz.prog Tryz.f11 false true false false):=by
 refine returnsInHanded_of_cond (C:=Tryz.checked) (s:=Rows.OpenSpec.upto Rows.codecDocumentsSpec) (k:=Rows.uptoSmall) rfl Tryz.own started (by kernel_rfl) Tryz.func11
  (OpenSpec.witness (enc:=enc) (C:=Tryz.checked) (s:=Rows.OpenSpec.upto Rows.codecDocumentsSpec) (k:=Rows.uptoSmall) rfl false ⟨#[],#[.agg #[.slice none 0 0,.slice none 0 0,.int .i64 0,.int .i64 0,.slice none 0 0,.slice none 0 0,.slice none 0 0,.slice none 0 0,.slice none 0 0,.slice none 0 0,.slice none 0 0]],[]⟩ 12 (by kernel_rfl) (by kernel_rfl) (by kernel_rfl)
   (x:=([.agg [.nil,.agg [.nil,.agg [.lit (.int .i64 0),.lit (.int .i64 0),.nil,.nil]],.nil,.agg [.nil,.nil,.nil,.nil]]],[],[])) (by kernel_rfl) rfl (by kernel_rfl)) ?_
 intro W base args ds gs before hval0 hW _ hk0 _
 have hval:∀ (j:Nat) t v,Tryz.f11.params[j]? = some t→args[j]? = some v→Value.okWide Tryz.prog W .any base t v:=hval0
 have hW':DataW.Whole enc Tryz.prog Tryz.f11.params.toList Rows.codecDocumentsSpec.vars false W args.toList ds gs before:=hW
 obtain ⟨p,q,hA0,hV,_,_,_⟩:=hW'
 have hA:DataW.TrodAll enc Tryz.prog W 0 (fun _ => true) true Tryz.f11.params.toList args.toList ds p:=hA0
 rw [Tryz.params11] at hA hval
 obtain ⟨v0,d0,rfl,rfl,h0⟩:=trodAll_one hA
 obtain ⟨rfl,rfl⟩:=trodVars_none hV
 have hk1:Rows.uptoBulkAll [d0]≤1048576:=of_decide_eq_true hk0
 simp only [Rows.uptoBulkAll] at hk1
 have hb0:Rows.uptoBulk d0≤1048576:=by omega
 obtain ⟨m0,D0⟩:=doc_of_arg (hval 0 49 v0 rfl rfl) h0 hb0
 obtain ⟨vs0,x0,rfl,hl0,hR0,hz0⟩:=D0 (max m0 10485765) (by omega)
 refine (docs_any (max m0 10485765) (fun b => b < W.heap.size) W vs0 x0 hR0 (fun b h => h) hz0 (by omega)).mono fun e W' ⟨he,hw⟩ => ?_
 subst he
 exact ⟨_,rfl,law_post Tryz.laidOut hW rfl rfl Tryz.underlying4 rfl (rd_of rd11) hw⟩
theorem documents_holds:Rows.CodecDocumentsUptoSaid :=
 OpenClaim.holds_of_cond 11 Tryz.f11 rfl rfl rfl rfl rfl rfl rfl ⟨rfl,rfl,rfl,rfl,rfl⟩ rfl rfl rfl rfl rfl (by kernel_rfl) Tryz.func11 (by kernel_rfl)
  (of_decide_eq_true (by kernel_rfl)) (by unfold Func.isWrapper; rw [if_neg (of_decide_eq_false (by kernel_rfl))]; exact ⟨rfl,rfl⟩)
  (fun os started H enc _ F0 => documents_lifted os started H enc F0)
#print axioms documents_holds
end Go.Proofs.YtmhhcfceikcfbaaGreat
