/- Walks: the model's match, left and right. -/
import Derived.Test.YtbpegoekjlehcaaW1
import Derived.Test.YtbpegoekjlehcaaTab
import Derived.IntWalk
import Derived.RegionTactic
import Derived.BigRegion
import Derived.BigQuiet
namespace Go.Proofs.Ytbpegoekjlehcaa
open Go.RowKit

set_option maxRecDepth 100000 in
set_option maxHeartbeats 2000000 in
theorem left_any (g : Int) (a b : List Tok) (w : World) (G F wd n cap c : Nat) (A : Option Addr) (i j s : Nat)
    (h0 : w.cell? ⟨G, 0, none⟩ = some (.slice A a.length c)) (h2 : w.cell? ⟨G, 2, none⟩ = some (.int .i64 g)) (h3 : w.cell? ⟨G, 3, none⟩ = some (.slice (some ⟨F, 0, none⟩) n cap))
    (hn : n = a.length + 1) (hwd : wd = b.length + 1) (hal : a.length ≤ 2048) (hbl : b.length ≤ 2048) (hwa : WOk a) (hwb : WOk b) (hg0 : 0 ≤ g) (hg1 : g ≤ 1000)
    (hi : i ≤ a.length) (hj : j ≤ b.length) (hs : s < 2)
    (hrow : i < a.length → ∃ R, w.cell? ⟨F, i + 1, none⟩ = some (.slice (some ⟨R, 0, none⟩) wd wd) ∧ w.cell? ⟨R, j * 2 + 1, none⟩ = some (.int .i64 (oT g a b (i + 1) j 1))) :
    Calls Try.prog 37 #[.pointer (some ⟨G, 0, none⟩), .int .i64 i, .int .i64 j, .int .i64 s] w fun e w' => e = .returned (.int .i64 (lT g a b i j s)) ∧ ∃ m, w' = w.drewN m := by
  have hbd := oT_bound g hg0 hg1 a b hwa hwb (i + 1) j 1
  by_cases h : i < a.length
  · obtain ⟨R, hF, hR⟩ := hrow h
    have HV : Hid (lT g a b i j s = oT g a b (i + 1) j 1 - opn g s) := Lib.hid (by unfold lT; rw [if_pos h])
    obtain ⟨o, ho⟩ : ∃ o, o = opn g s := ⟨_, rfl⟩
    have hw1 : IntKind.i64.wrap ((i : Int) + 1) = (i : Int) + 1 := IntWalk.i64_in _ (by omega)
    have hi1 : ((i : Int) + 1) < (n : Int) := by omega
    have hi0 : 0 ≤ (i : Int) + 1 := by omega
    have hin : ((i : Int) + 1).toNat = i + 1 := by omega
    have hj1 : (j : Int) < (wd : Int) := by omega
    have hw2 : IntKind.i64.wrap (1 - (s : Int)) = 1 - (s : Int) := IntWalk.i64_in _ (by omega)
    have hop : g * (1 - (s : Int)) = o := by
      rw [ho]; unfold opn
      rcases Nat.lt_or_ge s 1 with h | h
      · obtain rfl : s = 0 := by omega
        simp
      · obtain rfl : s = 1 := by omega
        simp
    have hob : 0 ≤ o ∧ o ≤ 1000 := by rw [ho]; unfold opn; split <;> omega
    have hw3 : IntKind.i64.wrap (g * (1 - (s : Int))) = o := by rw [hop, IntWalk.i64_in _ (by omega)]
    have hw4 : IntKind.i64.wrap (oT g a b (i + 1) j 1 - o) = oT g a b (i + 1) j 1 - o := IntWalk.i64_in _ (by omega)
    rw [← ho] at HV
    clear hop ho
    go_enter Try.func37, Try.ntmps37
    go_wp2
    go_quiet (fail)
    go_wp2
    go_ret
    exact ⟨ret_int HV.out.symm, _, rfl⟩
  · have HV : Hid (lT g a b i j s = -1099511627776) := Lib.hid (by unfold lT; rw [if_neg h]; rfl)
    go_enter Try.func37, Try.ntmps37
    go_wp2
    go_ret
    exact ⟨ret_int HV.out.symm, 0, rfl⟩

set_option maxRecDepth 100000 in
set_option maxHeartbeats 2000000 in
theorem right_any (g : Int) (a b : List Tok) (w : World) (G F wd n cap c : Nat) (A : Option Addr) (i j s : Nat)
    (h1 : w.cell? ⟨G, 1, none⟩ = some (.slice A b.length c)) (h2 : w.cell? ⟨G, 2, none⟩ = some (.int .i64 g)) (h3 : w.cell? ⟨G, 3, none⟩ = some (.slice (some ⟨F, 0, none⟩) n cap))
    (hn : n = a.length + 1) (hwd : wd = b.length + 1) (hal : a.length ≤ 2048) (hbl : b.length ≤ 2048) (hwa : WOk a) (hwb : WOk b) (hg0 : 0 ≤ g) (hg1 : g ≤ 1000)
    (hi : i ≤ a.length) (hj : j ≤ b.length) (hs : s < 2)
    (hrow : j < b.length → ∃ R, w.cell? ⟨F, i, none⟩ = some (.slice (some ⟨R, 0, none⟩) wd wd) ∧ w.cell? ⟨R, (j + 1) * 2 + 1, none⟩ = some (.int .i64 (oT g a b i (j + 1) 1))) :
    Calls Try.prog 43 #[.pointer (some ⟨G, 0, none⟩), .int .i64 i, .int .i64 j, .int .i64 s] w fun e w' => e = .returned (.int .i64 (rT g a b i j s)) ∧ ∃ m, w' = w.drewN m := by
  have hbd := oT_bound g hg0 hg1 a b hwa hwb i (j + 1) 1
  by_cases h : j < b.length
  · obtain ⟨R, hF, hR⟩ := hrow h
    have HV : Hid (rT g a b i j s = oT g a b i (j + 1) 1 - opn g s) := Lib.hid (by unfold rT; rw [if_pos h])
    obtain ⟨o, ho⟩ : ∃ o, o = opn g s := ⟨_, rfl⟩
    have hw1 : IntKind.i64.wrap ((j : Int) + 1) = (j : Int) + 1 := IntWalk.i64_in _ (by omega)
    have hi1 : (i : Int) < (n : Int) := by omega
    have hj0 : 0 ≤ (j : Int) + 1 := by omega
    have hjn : ((j : Int) + 1).toNat = j + 1 := by omega
    have hj1 : (j : Int) + 1 < (wd : Int) := by omega
    have hw2 : IntKind.i64.wrap (1 - (s : Int)) = 1 - (s : Int) := IntWalk.i64_in _ (by omega)
    have hop : g * (1 - (s : Int)) = o := by
      rw [ho]; unfold opn
      rcases Nat.lt_or_ge s 1 with h | h
      · obtain rfl : s = 0 := by omega
        simp
      · obtain rfl : s = 1 := by omega
        simp
    have hob : 0 ≤ o ∧ o ≤ 1000 := by rw [ho]; unfold opn; split <;> omega
    have hw3 : IntKind.i64.wrap (g * (1 - (s : Int))) = o := by rw [hop, IntWalk.i64_in _ (by omega)]
    have hw4 : IntKind.i64.wrap (oT g a b i (j + 1) 1 - o) = oT g a b i (j + 1) 1 - o := IntWalk.i64_in _ (by omega)
    rw [← ho] at HV
    clear hop ho
    go_enter Try.func43, Try.ntmps43
    go_wp2
    go_quiet (fail)
    go_wp2
    go_ret
    exact ⟨ret_int HV.out.symm, _, rfl⟩
  · have HV : Hid (rT g a b i j s = -1099511627776) := Lib.hid (by unfold rT; rw [if_neg h]; rfl)
    go_enter Try.func43, Try.ntmps43
    go_wp2
    go_ret
    exact ⟨ret_int HV.out.symm, 0, rfl⟩

set_option maxRecDepth 100000 in
set_option maxHeartbeats 4000000 in
theorem match_any (g : Int) (a b : List Tok) (w : World) (B G F wd n cap c c' : Nat) (A A' : Option Addr) (i j : Nat)
    (h0 : w.cell? ⟨G, 0, none⟩ = some (.slice A a.length c)) (h1 : w.cell? ⟨G, 1, none⟩ = some (.slice A' b.length c')) (h3 : w.cell? ⟨G, 3, none⟩ = some (.slice (some ⟨F, 0, none⟩) n cap))
    (HA : TokAt w B A a) (HB : TokAt w B A' b)
    (hn : n = a.length + 1) (hwd : wd = b.length + 1) (hal : a.length ≤ 2048) (hbl : b.length ≤ 2048) (hwa : WOk a) (hwb : WOk b) (hg0 : 0 ≤ g) (hg1 : g ≤ 1000)
    (hi : i ≤ a.length) (hj : j ≤ b.length)
    (hrow : i < a.length → j < b.length → ∃ R, w.cell? ⟨F, i + 1, none⟩ = some (.slice (some ⟨R, 0, none⟩) wd wd) ∧ w.cell? ⟨R, (j + 1) * 2, none⟩ = some (.int .i64 (oT g a b (i + 1) (j + 1) 0))) :
    Calls Try.prog 36 #[.pointer (some ⟨G, 0, none⟩), .int .i64 i, .int .i64 j] w fun e w' => e = .returned (.int .i64 (mT g a b i j)) ∧ ∃ m, w' = w.drewN m := by
  have hbd := oT_bound g hg0 hg1 a b hwa hwb (i + 1) (j + 1) 0
  by_cases hia : i < a.length
  · by_cases hjb : j < b.length
    · obtain ⟨b1, o1, rfl, hB1, g11, g12⟩ := HA i hia
      obtain ⟨b2, o2, rfl, hB2, g21, g22⟩ := HB j hjb
      obtain ⟨R, hF, hR⟩ := hrow hia hjb
      have hwa' := hwa a[i] (List.getElem_mem _)
      have hwb' := hwb b[j] (List.getElem_mem _)
      have d1 : decide ((i : Int) < (a.length : Int)) = true := by simpa using hia
      have d2 : decide ((j : Int) < (b.length : Int)) = true := by simpa using hjb
      by_cases hk : a[i].1 = b[j].1
      · have HV : Hid (mT g a b i j = min a[i].2 b[j].2 + oT g a b (i + 1) (j + 1) 0) := Lib.hid (by unfold mT; rw [dif_pos ⟨hia, hjb⟩, if_pos hk])
        obtain ⟨mn, hmn⟩ : ∃ mn, mn = min a[i].2 b[j].2 := ⟨_, rfl⟩
        have hmnb : 1 ≤ mn ∧ mn ≤ 1000 := by rw [hmn, Int.min_def]; split <;> omega
        have hM := hmn.symm
        have hw1 : IntKind.i64.wrap ((i : Int) + 1) = (i : Int) + 1 := IntWalk.i64_in _ (by omega)
        have hw2 : IntKind.i64.wrap ((j : Int) + 1) = (j : Int) + 1 := IntWalk.i64_in _ (by omega)
        have hi1 : (i : Int) + 1 < (n : Int) := by omega
        have hi0 : 0 ≤ (i : Int) + 1 := by omega
        have hin : ((i : Int) + 1).toNat = i + 1 := by omega
        have hj1 : (j : Int) + 1 < (wd : Int) := by omega
        have hj0 : 0 ≤ (j : Int) + 1 := by omega
        have hjn : ((j : Int) + 1).toNat = j + 1 := by omega
        have hw3 : IntKind.i64.wrap (mn + oT g a b (i + 1) (j + 1) 0) = mn + oT g a b (i + 1) (j + 1) 0 := IntWalk.i64_in _ (by omega)
        have hke : (a[i].1 == b[j].1) = true := by simpa using hk
        rw [← hmn] at HV
        clear hmn hwa hwb HA HB hk
        go_enter Try.func36, Try.ntmps36
        go_wp2_with fail
        go_quiet (fail)
        go_wp2_with fail
        go_quiet (fail)
        go_wp2_with fail
        all_goals
          go_ret
          exact ⟨ret_int (by have := HV.out; omega), _, rfl⟩
      · have HV : Hid (mT g a b i j = -1099511627776) := Lib.hid (by unfold mT; rw [dif_pos ⟨hia, hjb⟩, if_neg hk]; rfl)
        have hke : (a[i].1 == b[j].1) = false := by simpa using hk
        clear hwa hwb HA HB hk
        go_enter Try.func36, Try.ntmps36
        go_wp2_with fail
        go_quiet (fail)
        go_wp2_with fail
        go_ret
        exact ⟨ret_int HV.out.symm, _, rfl⟩
    · have HV : Hid (mT g a b i j = -1099511627776) := Lib.hid (by unfold mT; rw [dif_neg (by omega)]; rfl)
      have d1 : decide ((i : Int) < (a.length : Int)) = true := by simpa using hia
      have d2 : decide ((j : Int) < (b.length : Int)) = false := by simpa using hjb
      clear hwa hwb HA HB hrow
      go_enter Try.func36, Try.ntmps36
      go_wp2_with fail
      go_quiet (fail)
      go_wp2_with fail
      go_ret
      exact ⟨ret_int HV.out.symm, _, rfl⟩
  · have HV : Hid (mT g a b i j = -1099511627776) := Lib.hid (by unfold mT; rw [dif_neg (by omega)]; rfl)
    have d1 : decide ((i : Int) < (a.length : Int)) = false := by simpa using hia
    clear hwa hwb HA HB hrow
    go_enter Try.func36, Try.ntmps36
    go_wp2_with fail
    go_quiet (fail)
    go_wp2_with fail
    go_ret
    exact ⟨ret_int HV.out.symm, _, rfl⟩
end Go.Proofs.Ytbpegoekjlehcaa
