/- Walks: the reference's elements of one code point. -/
import Derived.Test.YtknnjnginmkblaaDoorW5
namespace Go.Proofs.YtknnjnginmkblaaDoor
open Go.RowKit

set_option maxRecDepth 100000 in
set_option maxHeartbeats 4000000 in
theorem risLetter_lib (c : Nat) (w : World) :
    Calls Tryd.prog 61 #[.int .i64 (c : Int)] w fun e w' => e = .returned (.bool (letB c)) ∧ w = w' := by
  have hc : c < 65 ∨ (65 ≤ c ∧ c ≤ 90) ∨ (90 < c ∧ c < 97) ∨ (97 ≤ c ∧ c ≤ 122) ∨ 122 < c := by omega
  rcases hc with h | h | h | h | h
  all_goals
    have HL : Hid (letB c = (decide (97 ≤ c ∧ c ≤ 122 ∨ 65 ≤ c ∧ c ≤ 90))) := Lib.hid rfl
    go_enter Tryd.func61, Tryd.ntmps61
    go_wp2_with fail
    go_ret
    exact ⟨ret_bool (by rw [HL.out, Bool.eq_iff_iff]; simp; omega), rfl⟩


set_option maxRecDepth 100000 in
set_option maxHeartbeats 4000000 in
theorem rbase_lib (p : Nat) (w : World) :
    Calls Tryd.prog 60 #[.int .i64 (p : Int)] w fun e w' => e = .returned (elV (baseE p)) ∧ Below w.heap.size w w' := by
  go_enter Tryd.func60, Tryd.ntmps60
  go_wp2_with fail
  refine bodyPost_ret (v := elV (baseE p)) ?_ rfl ⟨rfl, ?_⟩
  · have hres : Tryd.f60.results = #[.cell 2 59] := by kernel_rfl
    simp only [results, hres]
    go_simp
    rfl
  · exact (Below.refl _ _).alloc (Nat.le_refl _) _

set_option maxRecDepth 100000 in
set_option maxHeartbeats 4000000 in
theorem rmark_lib (c : Nat) (w : World) (h1 : 768 ≤ c) (h2 : c ≤ 879) :
    Calls Tryd.prog 63 #[.int .i64 (c : Int)] w fun e w' => e = .returned (elV (markE c)) ∧ Below w.heap.size w w' := by
  have e1 : IntKind.i64.wrap (33 + (c : Int)) = 33 + (c : Int) := IntWalk.i64_in _ (by omega)
  have e2 : IntKind.i64.wrap (33 + (c : Int) - 768) = ((33 + c - 768 : Nat) : Int) := by rw [IntWalk.i64_in _ (by omega)]; omega
  have HV : Hid (elV (markE c) = .agg #[.int .i64 0, .int .i64 ((33 + c - 768 : Nat) : Int), .int .i64 0]) := Lib.hid rfl
  obtain ⟨x, hx⟩ : ∃ x, x = 33 + c - 768 := ⟨_, rfl⟩
  rw [← hx] at e2 HV
  go_enter Tryd.func63, Tryd.ntmps63
  go_wp2_with fail
  refine bodyPost_ret (v := elV (markE c)) ?_ rfl ⟨rfl, ?_⟩
  · have hres : Tryd.f63.results = #[.cell 2 59] := by kernel_rfl
    simp only [results, hres]
    go_simp
    subst hx
    rfl
  · exact (Below.refl _ _).alloc (Nat.le_refl _) _


set_option maxRecDepth 100000 in
set_option maxHeartbeats 4000000 in
theorem rletter_lib (c : Nat) (o : Opt) (w : World) (hc : letB c = true) :
    Calls Tryd.prog 62 #[.int .i64 (c : Int), optV o] w fun e w' => e = .returned (elV (letterE c o.upper)) ∧ Below w.heap.size w w' := by
  have hc' : 97 ≤ c ∧ c ≤ 122 ∨ 65 ≤ c ∧ c ≤ 90 := by simpa [letB] using hc
  clear hc
  obtain ⟨st, num, ign, up⟩ := o
  show Calls Tryd.prog 62 #[.int .i64 (c : Int), .agg #[.int .i64 st, .bool num, .bool ign, .bool up]] w fun e w' => e = .returned (elV (letterE c up)) ∧ Below w.heap.size w w'
  by_cases h : 97 ≤ c
  · have HV : Hid (letterE c up = baseE (32768 + 4 * (c - 97))) := Lib.hid (if_pos h)
    have e1 : IntKind.i64.wrap ((c : Int) - 97) = ((c - 97 : Nat) : Int) := by rw [IntWalk.i64_in _ (by omega)]; omega
    have e2 : IntKind.i64.wrap (4 * ((c - 97 : Nat) : Int)) = ((4 * (c - 97) : Nat) : Int) := by rw [IntWalk.i64_in _ (by omega)]; omega
    have e3 : IntKind.i64.wrap (32768 + ((4 * (c - 97) : Nat) : Int)) = ((32768 + 4 * (c - 97) : Nat) : Int) := by rw [IntWalk.i64_in _ (by omega)]; omega
    obtain ⟨z, hz⟩ : ∃ z, z = 32768 + 4 * (c - 97) := ⟨_, rfl⟩
    obtain ⟨y, hy⟩ : ∃ y, y = 4 * (c - 97) := ⟨_, rfl⟩
    obtain ⟨x, hx⟩ : ∃ x, x = c - 97 := ⟨_, rfl⟩
    rw [← hz] at e3 HV
    rw [← hy] at e2 e3
    rw [← hx] at e1 e2
    clear hx hy hz hc'
    go_enter Tryd.func62, Tryd.ntmps62
    go_wp2_with fail
    refine (rbase_lib z _).mono ?_
    rw [show elV (baseE z) = .agg #[.int .i64 (z : Int), .int .i64 32, .int .i64 2] from rfl]
    rintro e w1 ⟨rfl, b1⟩
    have q0 : w1.cell? ⟨w.heap.size + 1, 0, none⟩ = some (.int .i64 0) := by rw [b1.cell (by simp)]; go_simp
    have q1 : w1.cell? ⟨w.heap.size + 1, 1, none⟩ = some (.int .i64 0) := by rw [b1.cell (by simp)]; go_simp
    have q2 : w1.cell? ⟨w.heap.size + 1, 2, none⟩ = some (.int .i64 0) := by rw [b1.cell (by simp)]; go_simp
    have f0 : w1.frozen? ⟨w.heap.size + 1, 0, none⟩ = false := by rw [b1.frozen (by simp)]; go_simp
    have f1 : w1.frozen? ⟨w.heap.size + 1, 1, none⟩ = false := by rw [b1.frozen (by simp)]; go_simp
    have f2 : w1.frozen? ⟨w.heap.size + 1, 2, none⟩ = false := by rw [b1.frozen (by simp)]; go_simp
    have bb : Below w.heap.size w w1 := (((Below.refl w.heap.size w).alloc (Nat.le_refl _) _).alloc (by simp) _).trans (b1.mono (by simp; omega))
    have hsz : w.heap.size + 2 ≤ w1.heap.size := by have := b1.size; simp at this; omega
    clear b1
    go_wp2_with fail
    refine bodyPost_ret (v := elV (baseE z)) ?_ rfl ⟨by rw [HV.out], ?_⟩
    · have hres : Tryd.f62.results = #[.cell 4 59] := by kernel_rfl
      simp only [results, hres]
      go_simp
      rfl
    · exact ((bb.setCell (Nat.le_succ _) _).setCell (Nat.le_succ _) _).setCell (Nat.le_succ _) _
  · have HV : Hid (letterE c up = ⟨32768 + 4 * (c - 65), 32, if up = true then 1 else 3⟩) := Lib.hid (if_neg h)
    have e1 : IntKind.i64.wrap ((c : Int) - 65) = ((c - 65 : Nat) : Int) := by rw [IntWalk.i64_in _ (by omega)]; omega
    have e2 : IntKind.i64.wrap (4 * ((c - 65 : Nat) : Int)) = ((4 * (c - 65) : Nat) : Int) := by rw [IntWalk.i64_in _ (by omega)]; omega
    have e3 : IntKind.i64.wrap (32768 + ((4 * (c - 65) : Nat) : Int)) = ((32768 + 4 * (c - 65) : Nat) : Int) := by rw [IntWalk.i64_in _ (by omega)]; omega
    obtain ⟨z, hz⟩ : ∃ z, z = 32768 + 4 * (c - 65) := ⟨_, rfl⟩
    obtain ⟨y, hy⟩ : ∃ y, y = 4 * (c - 65) := ⟨_, rfl⟩
    obtain ⟨x, hx⟩ : ∃ x, x = c - 65 := ⟨_, rfl⟩
    rw [← hz] at e3 HV
    rw [← hy] at e2 e3
    rw [← hx] at e1 e2
    clear hx hy hz hc'
    have b0 : ∀ o1 o2, Below w.heap.size w ((w.alloc o1).alloc o2) := fun _ _ => ((Below.refl w.heap.size w).alloc (Nat.le_refl _) _).alloc (by simp) _
    cases up with
    | true =>
      go_enter Tryd.func62, Tryd.ntmps62
      go_wp2_with fail
      refine bodyPost_ret (v := elV (letterE c true)) ?_ rfl ⟨rfl, b0 _ _⟩
      rw [HV.out]
      have hres : Tryd.f62.results = #[.cell 4 59] := by kernel_rfl
      simp only [results, hres]
      go_simp
      rfl
    | false =>
      go_enter Tryd.func62, Tryd.ntmps62
      go_wp2_with fail
      refine bodyPost_ret (v := elV (letterE c false)) ?_ rfl ⟨rfl, b0 _ _⟩
      rw [HV.out]
      have hres : Tryd.f62.results = #[.cell 4 59] := by kernel_rfl
      simp only [results, hres]
      go_simp
      rfl
end Go.Proofs.YtknnjnginmkblaaDoor
