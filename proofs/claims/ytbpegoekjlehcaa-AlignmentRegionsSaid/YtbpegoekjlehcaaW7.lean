/- Walk: the table of choices. -/
import Derived.Test.YtbpegoekjlehcaaW3
import Derived.IntWalk
import Derived.RegionTactic
import Derived.BigRegion
import Derived.ChangeAlike
namespace Go.Proofs.Ytbpegoekjlehcaa
open Go.RowKit

set_option maxRecDepth 100000 in
set_option maxHeartbeats 1000000 in
theorem set_any (G R C : Nat) (n N wd s i k q : Nat) (c c' : Nat) (sc : Int) (ch : Nat) (x y : Value) (w : World) (hs : s = 0 ∨ s = 1)
    (hw : w.cell? ⟨G, 3, none⟩ = some (.int .i64 wd)) (hc : w.cell? ⟨G, 1 + s, none⟩ = some (.slice (some ⟨C, 0, none⟩) N c))
    (hx : w.cell? ⟨R, k, none⟩ = some x) (hy : w.cell? ⟨C, q, none⟩ = some y) (hfx : w.frozen? ⟨R, k, none⟩ = false) (hfy : w.frozen? ⟨C, q, none⟩ = false)
    (hRG : R ≠ G) (hCR : R ≠ C) (hkn : k < n) (hqN : q < N) (hq : q = i * wd + k) (hb : q < 9223372036854775807) :
    Calls Try.prog 42 #[.pointer (some ⟨G, 0, none⟩), .slice (some ⟨R, 0, none⟩) n c', .int .i64 s, .int .i64 i, .int .i64 k, .int .i64 sc, .int .u8 ch] w
      fun e w' => e = .returned (.tuple #[]) ∧ w' = (((w.setCell ⟨R, k, none⟩ (.int .i64 sc)).setCell ⟨C, q, none⟩ (.int .u8 ch))).drew := by
  have hm : (i : Int) * (wd : Int) = ((i * wd : Nat) : Int) := by simp
  obtain ⟨m, hm'⟩ : ∃ m, m = i * wd := ⟨_, rfl⟩
  rw [← hm'] at hm hq
  have hw1 : IntKind.i64.wrap ((i : Int) * (wd : Int)) = (m : Int) := by rw [hm, IntWalk.i64_in _ (by omega)]
  have hw2 : IntKind.i64.wrap ((m : Int) + (k : Int)) = (q : Int) := by rw [IntWalk.i64_in _ (by omega)]; omega
  have hqN' : (q : Int) < (N : Int) := by omega
  have hkn' : (k : Int) < (n : Int) := by omega
  have hq0 : (0 : Int) ≤ (q : Int) := by omega
  clear hm hm' hq
  have e3 : (w.setCell ⟨R, k, none⟩ (.int .i64 sc)).cell? ⟨G, 3, none⟩ = some (.int .i64 wd) := by rw [World.cell?_setCell_other _ _ _ _ (by simp)]; exact hw
  have e4 : (w.setCell ⟨R, k, none⟩ (.int .i64 sc)).cell? ⟨G, 1 + s, none⟩ = some (.slice (some ⟨C, 0, none⟩) N c) := by rw [World.cell?_setCell_other _ _ _ _ (by simp)]; exact hc
  have e5 : (w.setCell ⟨R, k, none⟩ (.int .i64 sc)).cell? ⟨C, q, none⟩ = some y := by rw [World.cell?_setCell_other _ _ _ _ (by simp)]; exact hy
  rcases hs with rfl | rfl
  · go_enter Try.func42, Try.ntmps42
    go_wp2
    go_region
    all_goals (go_end0; exact ⟨rfl, rfl⟩)
  · go_enter Try.func42, Try.ntmps42
    go_wp2
    go_region
    all_goals (go_end0; exact ⟨rfl, rfl⟩)

end Go.Proofs.Ytbpegoekjlehcaa
