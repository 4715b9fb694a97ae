/- CollateInitials: for any string, any options the law returns true. Condition: the listed variables of unicode/utf8 are as the program's text lays them (the card ties them). -/
import Derived.Test.YtknnjnginmkblaaDoorInitials
import Derived.Test.YtknnjnginmkblaaDoorLaw2
namespace Go.Proofs.YtknnjnginmkblaaDoor
open Go.ChangeShapes Go.WideShapes Go.ChangeAt Go.RowKit

theorem rd11 : Tryd.f11.params.toList.all (fun t => Tryd.prog.readableRec t && decide (t < Tryd.prog.types.size)) = true := by kernel_rfl

set_option maxRecDepth 100000 in
theorem initials_lifted (os : Os) (started : os.Started) (H : Type) (enc : TypeId × Value → H) :
    ReturnsInHanded {} Tryd.checked os 11 .any (fun w args => (Rows.collateInitialsSpec.pre enc Tryd.prog Tryd.f11 Rows.collateInitialsRow.domain false w args ∧ laidMetH Tryd.prog Rows.collateInitialsRow.laid w) ∧ sizedMet enc Tryd.prog Tryd.f11 (OpenSpec.ofChange Rows.collateInitialsSpec) false w args)
      (Rows.collateInitialsSpec.post enc Tryd.prog Tryd.f11 false true false false) := by
  refine returnsInHanded_of_change_and (C := Tryd.checked) (X := fun w _ => laidMetH Tryd.prog Rows.collateInitialsRow.laid w) (fun _ _ _ hh h => h.of_heap hh) Tryd.own started (by kernel_rfl) Tryd.func11
    (ChangeSpec.witness_shaped (enc := enc) (C := Tryd.checked) (os := os) (X := fun w _ => laidMetH Tryd.prog Rows.collateInitialsRow.laid w) false (World.laidAll Tryd.prog os Rows.collateInitialsRow.laid) #[.string ⟨#[]⟩, .agg #[.int .i64 0, .bool false, .bool false, .bool false]] 8 (World.laidAll_os _ _ _)
      (World.shaped_of_ZipB (by kernel_rfl) (by kernel_rfl)) (by kernel_rfl) (by kernel_rfl) (by kernel_rfl)
      (by rw [MakeChecks.laidMetH_plain _ _ _ (by kernel_rfl)]; exact laidMet_laidAll _ (by kernel_rfl) (by kernel_rfl))) ?_
  intro W base args ds gs before hval0 hW _ _ _ _
  have hval : ∀ (j : Nat) t v, Tryd.f11.params[j]? = some t → args[j]? = some v → Value.okWide Tryd.prog W .any base t v := hval0
  have hW' : DataW.Whole enc Tryd.prog Tryd.f11.params.toList Rows.collateInitialsSpec.vars false W args.toList ds gs before := hW
  obtain ⟨p, q, hA0, hV, _, _, _⟩ := hW'
  have hA : DataW.TrodAll enc Tryd.prog W 0 (fun _ => true) true Tryd.f11.params.toList args.toList ds p := hA0
  rw [Tryd.params11] at hA hval
  obtain ⟨v0, v1, d0, d1, p0, p1, rfl, rfl, rfl, h0, h1⟩ := trodAll_two hA
  obtain ⟨rfl, rfl⟩ := trodVars_none hV
  obtain ⟨s0, rfl, hs0⟩ := str_of_arg (hval 0 9 v0 rfl rfl) h0
  obtain ⟨o1, rfl, ho1⟩ := opt_of_arg (hval 1 23 v1 rfl rfl) h1
  refine (initials_any s0 o1 W ).mono fun e W' ⟨he, hw⟩ => ?_
  subst he
  exact ⟨_, rfl, law_post Tryd.laidOut hW rfl rfl Tryd.underlying4 rfl (rd_of rd11) hw⟩

theorem initials_holds : Rows.CollateInitialsSaid :=
  OpenClaim.holds_of_wide 11 Tryd.f11 rfl rfl rfl rfl rfl rfl rfl ⟨rfl, rfl, rfl, rfl, rfl⟩ rfl rfl rfl rfl rfl (by kernel_rfl) Tryd.func11 (by kernel_rfl)
    (of_decide_eq_true (by kernel_rfl)) (by unfold Func.isWrapper; first | (rw [if_pos (by decide +kernel)]; kernel_rfl) | (rw [if_neg (by decide +kernel)]; exact ⟨rfl, rfl⟩))
    (fun os started H enc _ => initials_lifted os started H enc)

theorem initials_card_holds : Rows.CollateInitialsCardSaid :=
  Claim7.holds_tied_plain_at .later [] [.data, .pinned] true (true, "9aaccb91619efc3ac92ce094fdc5361738cb71dc777a1e139c60a62e3c9882d7") false initials_holds (fun _ h => by cases h) (by kernel_rfl) (fun _ h => by cases h) collateInitials_row_tie rfl ⟨rfl, rfl⟩ (by kernel_rfl) rfl
    (fun f fn hf hfn => by
      obtain rfl : f = 11 := Option.some.inj ((show Tryd.prog.funcNamed "obelus/obeluslaw06.CollateInitials" = some 11 by kernel_rfl).symm.trans hf) |>.symm
      obtain rfl : fn = Tryd.f11 := (Option.some.inj (Tryd.func11.symm.trans hfn)).symm
      exact ⟨by kernel_rfl, fun j t ht => by
        rw [Tryd.params11] at ht
        have hm : t ∈ [9, 23] := by simpa using Array.mem_of_getElem? ht
        have hall : ([9, 23].all fun u => !Tryd.prog.wantsStandIn u) = true := by kernel_rfl
        exact (show Tryd.prog.wantsStandIn t = false by simpa using List.all_eq_true.1 hall t hm)⟩)
    (by kernel_rfl)
#print axioms initials_card_holds
end Go.Proofs.YtknnjnginmkblaaDoor
