/- CodecItems: for items, a string (values and letters at most 1048576 in all) the law returns true. Condition: that bulk. -/
import Derived.Test.YtmhhcfceikcfbaaGreatIts
import Derived.Test.YtmhhcfceikcfbaaGreatT3
import Derived.Test.YtmhhcfceikcfbaaGreatLaw
import Derived.JoinedCond
namespace Go.Proofs.YtmhhcfceikcfbaaGreat
open Go.ChangeShapes Go.WideShapes Go.ChangeAt Go.RowKit

theorem rd6 : Tryz.f6.params.toList.all (fun t => Tryz.prog.readableRec t && decide (t < Tryz.prog.types.size)) = true := by kernel_rfl

section
variable {H : Type} {enc : TypeId × Value → H}
set_option maxRecDepth 100000 in
/-- An argument: items. The depth may be chosen great. -/
theorem items_of_arg {W : World} {r : Reach} {b0 : Nat} {v : Value} {d : DataW H} {p : List MemPlace} (hv : Value.okWide Tryz.prog W r b0 33 v) (h : DataW.Trod enc Tryz.prog W 0 (fun _ => true) true 33 v d p) (hb : Rows.uptoBulk d ≤ 1048576) (m : Nat) :
    ∃ n, m ≤ n ∧ ∃ (x : List (It n)), Slv (itP n) 11 W (fun b => b < W.heap.size) v x ∧ (listE (itE n) x).length ≤ 10485760 := by
  obtain ⟨A, a, c, rfl⟩ := okWide_slice Tryz.underlying33 hv
  obtain ⟨fuel, hf⟩ := h
  obtain ⟨h1, x, h2, h3⟩ := (rdA_33n (enc := enc) (w := W) (max fuel m)) fuel _ _ (by omega) hf hb
  obtain ⟨u, hu, h4⟩ := h2
  simp only [Value.cells, List.cons.injEq, and_true] at hu
  subst hu
  exact ⟨max fuel m, by omega, x, h4, by simp only at h3; omega⟩
end

set_option maxRecDepth 100000 in
theorem items_lifted (os : Os) (started : os.Started) (H : Type) (enc : TypeId × Value → H) (F0 : Stop.Interp) :
    ReturnsInHanded {} Tryz.checked os 6 .any ((Rows.OpenSpec.upto Rows.codecItemsSpec).pre6 enc Tryz.prog Tryz.f6 Rows.codecItemsUptoRow.domain false) (((Rows.OpenSpec.upto Rows.codecItemsSpec).at F0).post enc Tryz.prog Tryz.f6 false true false false) := by
  refine returnsInHanded_of_cond (C := Tryz.checked) (s := Rows.OpenSpec.upto Rows.codecItemsSpec) (k := Rows.uptoSmall) rfl Tryz.own started (by kernel_rfl) Tryz.func6
    (OpenSpec.witness (enc := enc) (C := Tryz.checked) (s := Rows.OpenSpec.upto Rows.codecItemsSpec) (k := Rows.uptoSmall) rfl false ⟨#[], #[.slice none 0 0, .string ⟨#[]⟩], []⟩ 12 (by kernel_rfl) (by kernel_rfl) (by kernel_rfl)
      (x := ([.nil, .lit (.string [])], [], [])) (by kernel_rfl) rfl (by kernel_rfl)) ?_
  intro W base args ds gs before hval0 hW _ hk0 _
  have hval : ∀ (j : Nat) t v, Tryz.f6.params[j]? = some t → args[j]? = some v → Value.okWide Tryz.prog W .any base t v := hval0
  have hW' : DataW.Whole enc Tryz.prog Tryz.f6.params.toList Rows.codecItemsSpec.vars false W args.toList ds gs before := hW
  obtain ⟨p, q, hA0, hV, _, _, _⟩ := hW'
  have hA : DataW.TrodAll enc Tryz.prog W 0 (fun _ => true) true Tryz.f6.params.toList args.toList ds p := hA0
  rw [Tryz.params6] at hA hval
  obtain ⟨v0, v1, d0, d1, p0, p1, rfl, rfl, rfl, h0, h1⟩ := trodAll_two hA
  obtain ⟨rfl, rfl⟩ := trodVars_none hV
  have hk1 : Rows.uptoBulkAll [d0, d1] ≤ 1048576 := of_decide_eq_true hk0
  simp only [Rows.uptoBulkAll] at hk1
  have hb0 : Rows.uptoBulk d0 ≤ 1048576 := by omega
  obtain ⟨n0, hn0, x0, hR0, hz0⟩ := items_of_arg (hval 0 33 v0 rfl rfl) h0 hb0 10485761
  obtain ⟨s1, rfl, hs1⟩ := str_of_arg (hval 1 9 v1 rfl rfl) h1
  refine (items_any n0 (fun b => b < W.heap.size) W v0 x0 s1 hR0 (fun b h => h) hz0 (by omega)).mono fun e W' ⟨he, hw⟩ => ?_
  subst he
  exact ⟨_, rfl, law_post Tryz.laidOut hW rfl rfl Tryz.underlying4 rfl (rd_of rd6) hw⟩

theorem items_holds : Rows.CodecItemsUptoSaid :=
  OpenClaim.holds_of_cond 6 Tryz.f6 rfl rfl rfl rfl rfl rfl rfl ⟨rfl, rfl, rfl, rfl, rfl⟩ rfl rfl rfl rfl rfl (by kernel_rfl) Tryz.func6 (by kernel_rfl)
    (of_decide_eq_true (by kernel_rfl)) (by unfold Func.isWrapper; rw [if_neg (of_decide_eq_false (by kernel_rfl))]; exact ⟨rfl, rfl⟩)
    (fun os started H enc _ F0 => items_lifted os started H enc F0)
#print axioms items_holds
end Go.Proofs.YtmhhcfceikcfbaaGreat
