/- CollateMarks: for any string, any string, any byte the law returns true. Condition: the listed variables of unicode/utf8 are as the program's text lays them (the card ties them). -/
import Derived.Test.YtknnjnginmkblaaDoorMarks
import Derived.Test.YtknnjnginmkblaaDoorLaw2
namespace Go.Proofs.YtknnjnginmkblaaDoor
open Go.ChangeShapes Go.WideShapes Go.ChangeAt Go.RowKit

theorem rd8 : Tryd.f8.params.toList.all (fun t => Tryd.prog.readableRec t && decide (t < Tryd.prog.types.size)) = true := by kernel_rfl

set_option maxRecDepth 100000 in
theorem marks_lifted (os : Os) (started : os.Started) (H : Type) (enc : TypeId × Value → H) :
    ReturnsInHanded {} Tryd.checked os 8 .any (fun w args => (Rows.collateMarksSpec.pre enc Tryd.prog Tryd.f8 Rows.collateMarksRow.domain false w args ∧ laidMetH Tryd.prog Rows.collateMarksRow.laid w) ∧ sizedMet enc Tryd.prog Tryd.f8 (OpenSpec.ofChange Rows.collateMarksSpec) false w args)
      (Rows.collateMarksSpec.post enc Tryd.prog Tryd.f8 false true false false) := by
  refine returnsInHanded_of_change_and (C := Tryd.checked) (X := fun w _ => laidMetH Tryd.prog Rows.collateMarksRow.laid w) (fun _ _ _ hh h => h.of_heap hh) Tryd.own started (by kernel_rfl) Tryd.func8
    (ChangeSpec.witness_shaped (enc := enc) (C := Tryd.checked) (os := os) (X := fun w _ => laidMetH Tryd.prog Rows.collateMarksRow.laid w) false (World.laidAll Tryd.prog os Rows.collateMarksRow.laid) #[.string ⟨#[]⟩, .string ⟨#[]⟩, .int .u8 0] 8 (World.laidAll_os _ _ _)
      (World.shaped_of_ZipB (by kernel_rfl) (by kernel_rfl)) (by kernel_rfl) (by kernel_rfl) (by kernel_rfl)
      (by rw [MakeChecks.laidMetH_plain _ _ _ (by kernel_rfl)]; exact laidMet_laidAll _ (by kernel_rfl) (by kernel_rfl))) ?_
  intro W base args ds gs before hval0 hW _ _ _ _
  have hval : ∀ (j : Nat) t v, Tryd.f8.params[j]? = some t → args[j]? = some v → Value.okWide Tryd.prog W .any base t v := hval0
  have hW' : DataW.Whole enc Tryd.prog Tryd.f8.params.toList Rows.collateMarksSpec.vars false W args.toList ds gs before := hW
  obtain ⟨p, q, hA0, hV, _, _, _⟩ := hW'
  have hA : DataW.TrodAll enc Tryd.prog W 0 (fun _ => true) true Tryd.f8.params.toList args.toList ds p := hA0
  rw [Tryd.params8] at hA hval
  obtain ⟨v0, v1, v2, d0, d1, d2, p0, p1, p2, rfl, rfl, rfl, h0, h1, h2⟩ := trodAll_three hA
  obtain ⟨rfl, rfl⟩ := trodVars_none hV
  obtain ⟨s0, rfl, hs0⟩ := str_of_arg (hval 0 9 v0 rfl rfl) h0
  obtain ⟨s1, rfl, hs1⟩ := str_of_arg (hval 1 9 v1 rfl rfl) h1
  obtain ⟨c2, rfl, hc2⟩ := byte_of_arg (hval 2 5 v2 rfl rfl) h2
  refine (marks_any s0 s1 (c2 : Int) (by omega) W).mono fun e W' ⟨he, hw⟩ => ?_
  subst he
  exact ⟨_, rfl, law_post Tryd.laidOut hW rfl rfl Tryd.underlying4 rfl (rd_of rd8) hw⟩

theorem marks_holds : Rows.CollateMarksSaid :=
  OpenClaim.holds_of_wide 8 Tryd.f8 rfl rfl rfl rfl rfl rfl rfl ⟨rfl, rfl, rfl, rfl, rfl⟩ rfl rfl rfl rfl rfl (by kernel_rfl) Tryd.func8 (by kernel_rfl)
    (of_decide_eq_true (by kernel_rfl)) (by unfold Func.isWrapper; first | (rw [if_pos (by decide +kernel)]; kernel_rfl) | (rw [if_neg (by decide +kernel)]; exact ⟨rfl, rfl⟩))
    (fun os started H enc _ => marks_lifted os started H enc)

theorem marks_card_holds : Rows.CollateMarksCardSaid :=
  Claim7.holds_tied_plain_at .later [] [.data, .pinned] true (true, "9aaccb91619efc3ac92ce094fdc5361738cb71dc777a1e139c60a62e3c9882d7") false marks_holds (fun _ h => by cases h) (by kernel_rfl) (fun _ h => by cases h) collateMarks_row_tie rfl ⟨rfl, rfl⟩ (by kernel_rfl) rfl
    (fun f fn hf hfn => by
      obtain rfl : f = 8 := Option.some.inj ((show Tryd.prog.funcNamed "obelus/obeluslaw06.CollateMarks" = some 8 by kernel_rfl).symm.trans hf) |>.symm
      obtain rfl : fn = Tryd.f8 := (Option.some.inj (Tryd.func8.symm.trans hfn)).symm
      exact ⟨by kernel_rfl, fun j t ht => by
        rw [Tryd.params8] at ht
        have hm : t ∈ [9, 9, 5] := by simpa using Array.mem_of_getElem? ht
        have hall : ([9, 9, 5].all fun u => !Tryd.prog.wantsStandIn u) = true := by kernel_rfl
        exact (show Tryd.prog.wantsStandIn t = false by simpa using List.all_eq_true.1 hall t hm)⟩)
    (by kernel_rfl)
#print axioms marks_card_holds
end Go.Proofs.YtknnjnginmkblaaDoor
