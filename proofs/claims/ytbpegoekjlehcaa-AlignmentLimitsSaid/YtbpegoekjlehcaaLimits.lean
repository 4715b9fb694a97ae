/- Walk: AlignmentLimits. -/
import Derived.Test.YtbpegoekjlehcaaL1
import Derived.Test.YtbpegoekjlehcaaLib3
import Derived.Test.YtbpegoekjlehcaaLim
import Derived.Test.YtbpegoekjlehcaaT2
namespace Go.Proofs.Ytbpegoekjlehcaa
open Go.RowKit

section
variable {α : Type} {enc : α → List Value} {sz : Nat}
/-- A made row that is filled is a slice of the call's own. -/
theorem own_of_row {E : TypeId} {w : World} {base g n : Nat} {f : Nat → Value} {l : List α} (he : ∀ x, (enc x).length = sz) (hsz : 0 < sz) (h : w.rowIs g E (n * sz) f) (hb : base ≤ g) (hn : l.length = n) (hm : n ≤ maxLen)
    (hf : ∀ i x, l[i]? = some x → ∀ j u, (enc x)[j]? = some u → f (i * sz + j) = u) : Own enc sz E w base (.slice (some ⟨g, 0, none⟩) n n) l := by
  unfold World.rowIs at h
  obtain ⟨c, h1, h2, h3⟩ := h
  subst hn
  refine ⟨flatMap_length he l, .inr ⟨g, l.length, c, rfl, hb, h1, Nat.le_refl _, hm, h2, ?_⟩⟩
  apply List.ext_getElem?
  intro q
  by_cases hq : q < l.length * sz
  · have hlen := flatMap_length he l
    obtain ⟨i, x, r, rfl, hx, hr⟩ := flatMap_inv he hsz l q _ (List.getElem?_eq_getElem (by rw [hlen]; exact hq))
    rw [List.getElem?_take, if_pos hq, flatMap_get he l i x hx r _ hr]
    have := h3 _ hq
    rw [hf i x hx r _ hr] at this
    simpa using this
  · rw [List.getElem?_take, if_neg hq, List.getElem?_eq_none (by rw [flatMap_length he l]; omega)]
end

theorem run_make_toks (n : Nat) (h : n ≤ 4096) (w : World) :
    (Instr.makeSlice 22 (.int .i64 (n : Int)) (.int .i64 (n : Int))).run Try.prog w = .ok (.slice (some ⟨w.heap.size, 0, none⟩) n n) (w.alloc (.cells (madeCells #[.int .i64 0, .int .i64 0] (n * 2)) 46)) := by
  obtain ⟨i0, hi, hz0, hz1, hz2⟩ := info_parts info46
  have hr := run_make (P := Try.prog) w 22 46 i0 _ Try.underlying22 hi hz0 .i64 .i64 n n (by omega) (Int.le_refl _) (by rw [hz2]; omega) (by omega)
  simp only [Int.toNat_natCast, hz1] at hr
  exact hr
theorem madeToks (w : World) (n : Nat) : (w.alloc (.cells (madeCells #[.int .i64 0, .int .i64 0] n) 46)).rowIs w.heap.size 46 n (fun _ => .int .i64 0) :=
  ⟨_, heap_alloc_new _ _, size_madeCells _ _, fun i hi => by
    have : i % 2 < 2 := Nat.mod_lt _ (by omega)
    have h2 : i % 2 = 0 ∨ i % 2 = 1 := by omega
    rcases h2 with h2 | h2 <;> simp [madeCells, hi, h2]⟩

set_option maxRecDepth 100000 in
set_option maxHeartbeats 4000000 in
theorem limits_any (more : Bool) (weight : Int) (w : World) :
    Calls Try.prog 8 #[.bool more, .int .i64 weight] w fun e w' => e = .returned (.bool true) ∧ Below w.heap.size w w' := by
  obtain ⟨i0, hi, hz0, hz1, hz2⟩ := info_parts info46
  have hmk : ∀ W, (Instr.makeSlice 22 (.int .i64 2048) (.int .i64 2048)).run Try.prog W = .ok (.slice (some ⟨W.heap.size, 0, none⟩) 2048 2048) (W.alloc (.cells (madeCells #[.int .i64 0, .int .i64 0] 4096) 46)) := fun W => run_make_toks 2048 (by omega) W
  go_enter Try.func8, Try.ntmps8
  go_wp2_with fail
  go_loopw [6] (fun iv wr => ∃ i : Nat, i ≤ 2048 ∧ iv = .int .i64 i ∧ wr.rowIs w.heap.size 46 4096 (fun q => .int .i64 (limF i q)) ∧ Below w.heap.size w wr) (fun iv _ => (2048 - intOf iv).toNat)
  case atStart => exact ⟨0, by omega, rfl, (madeToks w 4096).congr (fun q _ => by unfold limF; rw [if_neg (by omega)]), (Below.refl _ _).alloc (Nat.le_refl _) _⟩
  case round =>
    obtain ⟨i, hi4, rfl, hrow, hbw⟩ := hrel
    by_cases hlt : i < 2048
    · have k0 := hrow.cell (i := i * 2) (by omega)
      have k1 := hrow.cell (i := i * 2 + 1) (by omega)
      have f0 := hrow.frozen (i * 2)
      have f1 := hrow.frozen (i * 2 + 1)
      have HR := Lib.hid hrow
      clear hrow
      go_wp2_with fail
      go_roundw
      case rel =>
        refine ⟨i + 1, by omega, by go_num, ((HR.out.set (i * 2) (.int .i64 i)).set (i * 2 + 1) (.int .i64 1)).congr (fun q _ => ?_), (hbw.setCell (Nat.le_refl _) _).setCell (Nat.le_refl _) _⟩
        rw [limF_step]
        split
        · rfl
        · split <;> rfl
      case measure => simp [intOf]; omega
    · obtain rfl : i = 2048 := by omega
      have hown : OwnT wr w.heap.size (.slice (some ⟨w.heap.size, 0, none⟩) 2048 2048) lim := own_of_row encT_length (by decide) (n := 2048) hrow (Nat.le_refl _) lim_length (by unfold maxLen; omega) (fun i x hx j u hu => by
        have hi2 : i < 2048 := by
          have := (List.getElem?_eq_some_iff.1 hx).1
          rwa [lim_length] at this
        rw [lim_get i hi2] at hx
        injection hx with hx
        subst hx
        have hj : j < 2 := by have := (List.getElem?_eq_some_iff.1 hu).1; simpa [encT] using this
        match j, hj with
        | 0, _ =>
          simp only [encT, List.getElem?_cons_zero, Option.some.injEq] at hu
          subst hu
          unfold limF
          rw [if_pos (by omega), if_pos (by omega)]
          have : (i * 2 + 0) / 2 = i := by omega
          rw [this]
        | 1, _ =>
          simp only [encT, List.getElem?_cons_succ, List.getElem?_cons_zero, Option.some.injEq] at hu
          subst hu
          unfold limF
          rw [if_pos (by omega), if_neg (by omega)])
      clear hrow
      cases more with
      | false =>
        have HO := Lib.hid (hown.sl encT_length)
        have HBW := Lib.hid hbw
        have HB : Hid (bestL lim wx 0 = (1, 0)) := Lib.hid (by unfold bestL; rw [if_neg (by rw [lim_both]; simp), if_neg (by rw [show gapL 0 = 0 from rfl]; simp), lim_best])
        clear hown hbw
        go_wp2_with fail
        refine (word_lit _ wx (by rfl) _ (by decide)).mono ?_
        rintro e w1 ⟨v1, rfl, h1, hk⟩
        have hb1 := HBW.out.trans (hk.mono HBW.out.size)
        have hl1 := HO.out.over hk
        clear hk
        go_wp2_with fail
        refine (best_any _ _ lim wx 0 w1 hl1 h1).mono ?_
        rw [HB.out]
        rintro e w2 ⟨rfl, hk⟩
        have hb2 := hb1.trans (hk.mono hb1.size)
        have hl2 := hl1.over hk
        clear hb1 hl1 h1 hk
        go_wp2_with fail
        refine (known_any _).mono ?_
        rintro e w3 ⟨rfl, hk⟩
        have hb3 := hb2.trans (hk.mono hb2.size)
        have hl3 := hl2.over hk
        clear hb2 hl2 hk
        go_wp2_with fail
        refine (check_any _ lim w3 hl3).mono ?_
        rw [lim_check]
        rintro e w4 ⟨rfl, hk⟩
        have hb4 := hb3.trans (hk.mono hb3.size)
        clear hb3 hl3 hk
        go_wp2_with fail
        refine (word_lit _ wx (by rfl) _ (by decide)).mono ?_
        rintro e w5 ⟨v5, rfl, h5, hk⟩
        have hb5 := hb4.trans (hk.mono hb4.size)
        obtain ⟨A5, c5, rfl, _⟩ := h5.tok
        clear hb4 hk
        go_wp2_with fail
        refine (boolean_any true w5).mono ?_
        rintro e w6 ⟨rfl, rfl⟩
        go_wp2_with fail
        go_ret
        exact ⟨rfl, hb5⟩
      | true =>
        have hll := lim_length
        go_wp2_with (at_builtin; refine wpList_push _ rfl _ _ 22 rfl w.heap.size 46 i0 _ 2 16 Try.underlying22 hi hz0 hz1 hz2 rfl (by decide) encT_length encT_one _ _ rfl (hown.alloc _) _ _ (0, weight) rfl (cells_new _ _ _) ?c1 ?c2 ?c3 ?_)
        case c1 => omega
        case c2 => omega
        case c3 => have := hbw.size; simp; omega
        intro v' w0 hown1 hg1
        have hbw1 : Below w.heap.size w w0 := (hbw.alloc hbw.size _).grown hg1 (by have := hbw.size; simp; omega) (fun q hq => (hown.lt q hq).1)
        have HO := Lib.hid (hown1.sl encT_length)
        have HBW := Lib.hid hbw1
        have HB : Hid (bestL (lim ++ [(0, weight)]) wx 0 = (0, 9)) := Lib.hid (by unfold bestL; rw [if_pos (by rw [more_both]; omega), more_both])
        clear hown hown1 hg1 hbw hbw1 hll
        go_wp2_with fail
        refine (word_lit _ wx (by rfl) _ (by decide)).mono ?_
        rintro e w1 ⟨v1, rfl, h1, hk⟩
        have hb1 := HBW.out.trans (hk.mono HBW.out.size)
        have hl1 := HO.out.over hk
        clear hk
        go_wp2_with fail
        refine (best_any _ _ (lim ++ [(0, weight)]) wx 0 w1 hl1 h1).mono ?_
        rw [HB.out]
        rintro e w2 ⟨rfl, hk⟩
        have hb2 := hb1.trans (hk.mono hb1.size)
        have hl2 := hl1.over hk
        clear hb1 hl1 h1 hk
        go_wp2_with fail
        refine (known_any _).mono ?_
        rintro e w3 ⟨rfl, hk⟩
        have hb3 := hb2.trans (hk.mono hb2.size)
        have hl3 := hl2.over hk
        clear hb2 hl2 hk
        go_wp2_with fail
        refine (check_any _ (lim ++ [(0, weight)]) w3 hl3).mono ?_
        rw [more_check]
        rintro e w4 ⟨rfl, hk⟩
        have hb4 := hb3.trans (hk.mono hb3.size)
        clear hb3 hl3 hk
        go_wp2_with fail
        refine (word_lit _ wx (by rfl) _ (by decide)).mono ?_
        rintro e w5 ⟨v5, rfl, h5, hk⟩
        have hb5 := hb4.trans (hk.mono hb4.size)
        obtain ⟨A5, c5, rfl, _⟩ := h5.tok
        clear hb4 hk
        go_wp2_with fail
        refine (boolean_any false w5).mono ?_
        rintro e w6 ⟨rfl, rfl⟩
        go_wp2_with fail
        go_ret
        exact ⟨rfl, hb5⟩
end Go.Proofs.Ytbpegoekjlehcaa
