/- CollateSorts: for any strings, any options the law returns true. Condition: the listed variables of unicode/utf8 are as the program text lays them (the card ties them). -/
import Derived.Test.YtknnjnginmkblaaDoorLaw2
import Derived.Test.YtknnjnginmkblaaDoorS11
namespace Go.Proofs.YtknnjnginmkblaaDoor
section
open Go.ChangeShapes Go.WideShapes Go.ChangeAt Go.RowKit Go.Joins Go.Deep
set_option maxRecDepth 100000
section
variable {H : Type} {enc : TypeId × Value → H}
theorem strs_of_arg {W : World} {r : Reach} {b0 : Nat} {v : Value} {d : DataW H} {p : List MemPlace} (hv : Value.okWide Tryd.prog W r b0 47 v) (h : DataW.Trod enc Tryd.prog W 0 (fun _ => true) true 47 v d p) :
    ∃ l : List ByteArray, Sl encS 1 W W.heap.size v l := by
  obtain ⟨a0, len0, cap0, rfl⟩ := okWide_slice Tryd.underlying47 hv
  obtain ⟨n, hn⟩ := h
  simp only [Value.cells] at hn
  rcases open_slice1 Tryd.underlying47 (by kernel_rfl) hn with ⟨hc, _⟩ | ⟨a, len, cap, m, n, V, D, P, hc, _, hlc, hcm, hm, _, hcells⟩
  · have hc2 : Value.slice a0 len0 cap0 = .slice none 0 0 := by simpa using hc
    rw [hc2]
    exact ⟨[], Sl.nil _ _⟩
  · have hc2 : Value.slice a0 len0 cap0 = .slice (some a) len cap := by simpa using hc
    rw [hc2]
    simp only [if_true] at hm
    have hz : ∀ i, i < len → ∃ z : ByteArray, W.cell? (a.add i) = some (.string z) := by
      intro i hi
      obtain ⟨h1, h2⟩ := hcells i (by omega)
      obtain ⟨z0, e0, _⟩ := DataW.trod_string Tryd.underlying9 h2
      injection e0 with e0 _
      exact ⟨z0, by rw [h1, e0]⟩
    have : Inhabited ByteArray := ⟨⟨#[]⟩⟩
    obtain ⟨f, hf⟩ := choose_lt hz
    refine ⟨(List.range len).map f, some a, cap, by simp, by simpa using hlc, hcm, fun hn => ?_⟩
    simp only [List.length_map, List.length_range] at hn
    have h0 := hf 0 hn
    have h0' : W.cell? a = some (.string (f 0)) := by simpa [Addr.add] using h0
    have hs := spot_none h0'
    refine ⟨a.block, a.off, by rw [← hs], World.block_lt_of_cell? _ _ h0', fun i y hy j u hu => ?_⟩
    have hi : i < len := by have := (List.getElem?_eq_some_iff.1 hy).1; simpa using this
    have hy' : f i = y := by simpa [hi] using hy
    subst hy'
    have g1 := hf i hi
    rw [hs, addr_add] at g1
    cases j with
    | zero =>
      simp only [encS, List.getElem?_cons_zero, Option.some.injEq] at hu
      subst hu
      rw [Nat.mul_one, Nat.add_zero]
      exact g1
    | succ j => simp [encS] at hu
end
end
section
open Go.ChangeShapes Go.WideShapes Go.ChangeAt Go.RowKit

theorem rd13 : Tryd.f13.params.toList.all (fun t => Tryd.prog.readableRec t && decide (t < Tryd.prog.types.size)) = true := by kernel_rfl

set_option maxRecDepth 100000 in
theorem sorts_lifted (os : Os) (started : os.Started) (H : Type) (enc : TypeId × Value → H) :
    ReturnsInHanded {} Tryd.checked os 13 .any (fun w args => (Rows.collateSortsSpec.pre enc Tryd.prog Tryd.f13 Rows.collateSortsRow.domain false w args ∧ laidMetH Tryd.prog Rows.collateSortsRow.laid w) ∧ sizedMet enc Tryd.prog Tryd.f13 (OpenSpec.ofChange Rows.collateSortsSpec) false w args)
      (Rows.collateSortsSpec.post enc Tryd.prog Tryd.f13 false true false false) := by
  refine returnsInHanded_of_change_and (C := Tryd.checked) (X := fun w _ => laidMetH Tryd.prog Rows.collateSortsRow.laid w) (fun _ _ _ hh h => h.of_heap hh) Tryd.own started (by kernel_rfl) Tryd.func13
    (ChangeSpec.witness_shaped (enc := enc) (C := Tryd.checked) (os := os) (X := fun w _ => laidMetH Tryd.prog Rows.collateSortsRow.laid w) false (World.laidAll Tryd.prog os Rows.collateSortsRow.laid) #[.slice none 0 0, .agg #[.int .i64 0, .bool false, .bool false, .bool false]] 8 (World.laidAll_os _ _ _)
      (World.shaped_of_ZipB (by kernel_rfl) (by kernel_rfl)) (by kernel_rfl) (by kernel_rfl) (by kernel_rfl)
      (by rw [MakeChecks.laidMetH_plain _ _ _ (by kernel_rfl)]; exact laidMet_laidAll _ (by kernel_rfl) (by kernel_rfl))) ?_
  intro W base args ds gs before hval0 hW _ _ _ _
  have hval : ∀ (j : Nat) t v, Tryd.f13.params[j]? = some t → args[j]? = some v → Value.okWide Tryd.prog W .any base t v := hval0
  have hW' : DataW.Whole enc Tryd.prog Tryd.f13.params.toList Rows.collateSortsSpec.vars false W args.toList ds gs before := hW
  obtain ⟨p, q, hA0, hV, _, _, _⟩ := hW'
  have hA : DataW.TrodAll enc Tryd.prog W 0 (fun _ => true) true Tryd.f13.params.toList args.toList ds p := hA0
  rw [Tryd.params13] at hA hval
  obtain ⟨v0, v1, d0, d1, p0, p1, rfl, rfl, rfl, h0, h1⟩ := trodAll_two hA
  obtain ⟨rfl, rfl⟩ := trodVars_none hV
  obtain ⟨l0, hl0⟩ := strs_of_arg (hval 0 47 v0 rfl rfl) h0
  obtain ⟨o1, rfl, ho1⟩ := opt_of_arg (hval 1 23 v1 rfl rfl) h1
  refine (sorts_any v0 l0 o1 W hl0).mono fun e W' ⟨he, hw⟩ => ?_
  subst he
  exact ⟨_, rfl, law_post Tryd.laidOut hW rfl rfl Tryd.underlying4 rfl (rd_of rd13) hw⟩

theorem sorts_holds : Rows.CollateSortsSaid :=
  OpenClaim.holds_of_wide 13 Tryd.f13 rfl rfl rfl rfl rfl rfl rfl ⟨rfl, rfl, rfl, rfl, rfl⟩ rfl rfl rfl rfl rfl (by kernel_rfl) Tryd.func13 (by kernel_rfl)
    (of_decide_eq_true (by kernel_rfl)) (by unfold Func.isWrapper; first | (rw [if_pos (by decide +kernel)]; kernel_rfl) | (rw [if_neg (by decide +kernel)]; exact ⟨rfl, rfl⟩))
    (fun os started H enc _ => sorts_lifted os started H enc)

theorem sorts_card_holds : Rows.CollateSortsCardSaid :=
  Claim7.holds_tied_plain_at .later [] [.data, .pinned] true (true, "9aaccb91619efc3ac92ce094fdc5361738cb71dc777a1e139c60a62e3c9882d7") false sorts_holds (fun _ h => by cases h) (by kernel_rfl) (fun _ h => by cases h) collateSorts_row_tie rfl ⟨rfl, rfl⟩ (by kernel_rfl) rfl
    (fun f fn hf hfn => by
      obtain rfl : f = 13 := Option.some.inj ((show Tryd.prog.funcNamed "obelus/obeluslaw06.CollateSorts" = some 13 by kernel_rfl).symm.trans hf) |>.symm
      obtain rfl : fn = Tryd.f13 := (Option.some.inj (Tryd.func13.symm.trans hfn)).symm
      exact ⟨by kernel_rfl, fun j t ht => by
        rw [Tryd.params13] at ht
        have hm : t ∈ [47, 23] := by simpa using Array.mem_of_getElem? ht
        have hall : ([47, 23].all fun u => !Tryd.prog.wantsStandIn u) = true := by kernel_rfl
        exact (show Tryd.prog.wantsStandIn t = false by simpa using List.all_eq_true.1 hall t hm)⟩)
    (by kernel_rfl)
#print axioms sorts_card_holds
end
end Go.Proofs.YtknnjnginmkblaaDoor
