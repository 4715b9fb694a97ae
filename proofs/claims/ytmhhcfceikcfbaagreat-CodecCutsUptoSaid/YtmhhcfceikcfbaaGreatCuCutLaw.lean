/- CodecCuts: for a document, a splice, a number (values and letters at most 1048576 in all) the law returns true. Condition: that bulk. -/
import Derived.JoinedCond
import Derived.Test.YtmhhcfceikcfbaaGreatCuDcs
namespace Go.Proofs.YtmhhcfceikcfbaaGreat
open Go.ChangeShapes Go.WideShapes Go.ChangeAt Go.RowKit
set_option maxRecDepth 100000
set_option maxHeartbeats 4000000
theorem rd9:Tryz.f9.params.toList.all (fun t => Tryz.prog.readableRec t && decide (t < Tryz.prog.types.size)) = true:=by kernel_rfl
section
variable {H:Type} {enc:TypeId × Value→H}
theorem u16_of_arg {W:World} {r:Reach} {b0:Nat} {v:Value} {d:DataW H} {p:List MemPlace} (hv:Value.okWide Tryz.prog W r b0 83 v) (h:DataW.Trod enc Tryz.prog W 0 (fun _ => true) true 83 v d p):∃ k:Nat,v = .int .u16 (k:Int)∧k < 65536:=by
 obtain ⟨n,rfl⟩:=okWide_int Tryz.underlying83 hv
 obtain ⟨k,hk⟩:=h
 obtain ⟨z1,e1,_,w1⟩:=DataW.trod_int Tryz.underlying83 hk
 simp only [Value.cells] at e1
 injection e1 with e1 _
 injection e1 with _ e1
 subst e1
 simp [Lit.wf,IntKind.min,IntKind.max,IntKind.signed,IntKind.bits] at w1
 exact ⟨n.toNat,by rw [Int.toNat_of_nonneg w1.1],by omega⟩
end
theorem cuts_lifted (os:Os) (started:os.Started) (H:Type) (enc:TypeId × Value→H) (F0:Stop.Interp) :
  ReturnsInHanded {} Tryz.checked os 9 .any ((Rows.OpenSpec.upto Rows.codecCutsSpec).pre6 enc Tryz.prog Tryz.f9 Rows.codecCutsUptoRow.domain false) (((Rows.OpenSpec.upto Rows.codecCutsSpec).at F0).post enc Tryz.prog Tryz.f9 false true false false):=by
 refine returnsInHanded_of_cond (C:=Tryz.checked) (s:=Rows.OpenSpec.upto Rows.codecCutsSpec) (k:=Rows.uptoSmall) rfl Tryz.own started (by kernel_rfl) Tryz.func9
  (OpenSpec.witness (enc:=enc) (C:=Tryz.checked) (s:=Rows.OpenSpec.upto Rows.codecCutsSpec) (k:=Rows.uptoSmall) rfl false ⟨#[],#[.agg #[.slice none 0 0,.slice none 0 0,.int .i64 0,.int .i64 0,.slice none 0 0,.slice none 0 0,.slice none 0 0,.slice none 0 0,.slice none 0 0,.slice none 0 0,.slice none 0 0],.agg #[.int .i64 0,.int .i64 0,.int .i64 0,.int .i64 0,.slice none 0 0,.slice none 0 0,.slice none 0 0,.slice none 0 0,.int .i64 0,.int .i64 0,.slice none 0 0,.slice none 0 0,.slice none 0 0,.slice none 0 0,.slice none 0 0,.slice none 0 0,.slice none 0 0,.slice none 0 0,.slice none 0 0,.slice none 0 0,.int .i64 0,.int .i64 0,.slice none 0 0,.slice none 0 0,.slice none 0 0,.slice none 0 0,.slice none 0 0,.slice none 0 0],.int .u16 0],[]⟩ 12 (by kernel_rfl) (by kernel_rfl) (by kernel_rfl)
   (x:=([.agg [.nil,.agg [.nil,.agg [.lit (.int .i64 0),.lit (.int .i64 0),.nil,.nil]],.nil,.agg [.nil,.nil,.nil,.nil]],.agg [.lit (.int .i64 0),.lit (.int .i64 0),.lit (.int .i64 0),.lit (.int .i64 0),.agg [.nil,.nil,.nil,.agg [.nil,.agg [.lit (.int .i64 0),.lit (.int .i64 0),.nil,.nil]],.agg [.nil,.nil,.nil,.nil]],.agg [.nil,.nil,.nil,.agg [.nil,.agg [.lit (.int .i64 0),.lit (.int .i64 0),.nil,.nil]],.agg [.nil,.nil,.nil,.nil]]],.lit (.int .u16 0)],[],[])) (by kernel_rfl) rfl (by kernel_rfl)) ?_
 intro W base args ds gs before hval0 hW _ hk0 _
 have hval:∀ (j:Nat) t v,Tryz.f9.params[j]? = some t→args[j]? = some v→Value.okWide Tryz.prog W .any base t v:=hval0
 have hW':DataW.Whole enc Tryz.prog Tryz.f9.params.toList Rows.codecCutsSpec.vars false W args.toList ds gs before:=hW
 obtain ⟨p,q,hA0,hV,_,_,_⟩:=hW'
 have hA:DataW.TrodAll enc Tryz.prog W 0 (fun _ => true) true Tryz.f9.params.toList args.toList ds p:=hA0
 rw [Tryz.params9] at hA hval
 obtain ⟨v0,v1,v2,d0,d1,d2,p0,p1,p2,rfl,rfl,rfl,h0,h1,h2⟩:=trodAll_three hA
 obtain ⟨rfl,rfl⟩:=trodVars_none hV
 have hk1:Rows.uptoBulkAll [d0,d1,d2]≤1048576:=of_decide_eq_true hk0
 simp only [Rows.uptoBulkAll] at hk1
 have hb0:Rows.uptoBulk d0≤1048576:=by omega
 obtain ⟨m0,D0⟩:=doc_of_arg (hval 0 49 v0 rfl rfl) h0 hb0
 have hb1:Rows.uptoBulk d1≤1048576:=by omega
 obtain ⟨n1,hn1,vs1,x1,rfl,hl1,hR1,hz1⟩:=splice_of_arg (hval 1 77 v1 rfl rfl) h1 hb1 10485761
 obtain ⟨k2,rfl,hk2⟩:=u16_of_arg (hval 2 83 v2 rfl rfl) h2
 obtain ⟨vs0,x0,rfl,hl0,hR0,hz0⟩:=D0 (max m0 10485765) (by omega)
 refine (cuts_any (max m0 10485765) n1 k2 (fun b => b < W.heap.size) W vs0 vs1 x0 x1 hR0 hR1 (fun b h => h) hz0 hz1 (by omega) (by omega) hk2).mono fun e W' ⟨he,hw⟩ => ?_
 subst he
 exact ⟨_,rfl,law_post Tryz.laidOut hW rfl rfl Tryz.underlying4 rfl (rd_of rd9) hw⟩
theorem cuts_holds:Rows.CodecCutsUptoSaid :=
 OpenClaim.holds_of_cond 9 Tryz.f9 rfl rfl rfl rfl rfl rfl rfl ⟨rfl,rfl,rfl,rfl,rfl⟩ rfl rfl rfl rfl rfl (by kernel_rfl) Tryz.func9 (by kernel_rfl)
  (of_decide_eq_true (by kernel_rfl)) (by unfold Func.isWrapper; rw [if_neg (of_decide_eq_false (by kernel_rfl))]; exact ⟨rfl,rfl⟩)
  (fun os started H enc _ F0 => cuts_lifted os started H enc F0)
#print axioms cuts_holds
end Go.Proofs.YtmhhcfceikcfbaaGreat
