/- Walk: Regions. -/
import Derived.Test.YtbpegoekjlehcaaW18
namespace Go.Proofs.Ytbpegoekjlehcaa
open Go.RowKit Go.Shelf

theorem TokAt.more {w : World} {B B' : Nat} {A : Option Addr} {l : List Tok} (h : TokAt w B A l) (hB : B ≤ B') : TokAt w B' A l := fun k hk => by
  obtain ⟨b, o, rfl, hb, h1, h2⟩ := h k hk
  exact ⟨b, o, rfl, by omega, h1, h2⟩
theorem bothL_len {a b : List Tok} (h : bothL a b = 0) : a.length ≤ 2048 ∧ b.length ≤ 2048 := by
  unfold bothL at h
  have h1 : checkL a = 0 := by
    by_cases h1 : checkL a = 0
    · exact h1
    · rw [if_neg h1] at h; exact h
  rw [if_pos h1] at h
  unfold checkL at h1 h
  by_cases l1 : 2048 < a.length
  · rw [if_pos l1] at h1; omega
  · by_cases l2 : 2048 < b.length
    · rw [if_pos l2] at h; omega
    · omega
theorem lpairsL_zero {a b p : List Tok} (h : lpairsL a b p = 0) : bothL a b = 0 ∧ pairsL a b p = 0 := by
  unfold lpairsL at h
  by_cases h0 : bothL a b ≠ 0
  · rw [if_pos h0] at h; exact absurd h h0
  · rw [if_neg h0] at h; exact ⟨by simpa using h0, h⟩
def lregsL (a b p : List Tok) : List Reg := if lpairsL a b p = 0 then regs a.length b.length (p.length + 1) p 0 0 else []

set_option maxRecDepth 100000 in
set_option maxHeartbeats 2000000 in
theorem lregions_any (va vb vp : Value) (a b p : List Tok) (w : World) (ha : Toks w w.heap.size va a) (hb : Toks w w.heap.size vb b) (hp : Toks w w.heap.size vp p) :
    Calls Try.prog 30 #[va, vb, vp] w fun e w' => ∃ v, e = .returned (.tuple #[v, .int .i64 (lpairsL a b p)]) ∧ Own encR 5 60 w' w.heap.size v (lregsL a b p) ∧ Below w.heap.size w w' := by
  have H1 := Lib.hid (lpairs_any va vb vp a b p w ha hb hp)
  obtain ⟨A, c, rfl, hn, hc, HA⟩ := ha.tok
  obtain ⟨A', c', rfl, hn', hc', HB⟩ := hb.tok
  obtain ⟨A'', c'', rfl, hn'', hc'', HP⟩ := hp.tok
  clear ha hb hp HA HB
  by_cases h0 : lpairsL a b p = 0
  · have hb0 : (lpairsL a b p != 0) = false := by simp [h0]
    have HR : Hid (lregsL a b p = regs a.length b.length (p.length + 1) p 0 0) := Lib.hid (by unfold lregsL; rw [if_pos h0])
    obtain ⟨h1, h2⟩ := lpairsL_zero h0
    obtain ⟨f3, f4⟩ := bothL_len h1
    have HI := Lib.hid (inc_of_pairs a b p (-1) (-1) h2 (by omega) (by omega))
    have HL := Lib.hid h0
    clear h0 h1 h2
    go_enter Try.func30, Try.ntmps30
    go_wp2_with fail
    refine H1.out.mono ?_
    rintro e w1 ⟨rfl, hb1⟩
    have hz1 := hb1.size
    go_wp2_with fail
    refine (callsIn_wide.1 (regions_in Fence.wide 1 trivial rfl _ _ _ _ _ _ _ _ _ w1)).mono ?_
    rintro e w3 ⟨rfl, rfl⟩
    obtain ⟨W0, hW0⟩ : ∃ W0, W0 = ((w1.alloc (.cells #[.slice A a.length c] 22)).alloc (.cells #[.slice A' b.length c'] 22)).alloc (.cells #[.slice A'' p.length c''] 26) := ⟨_, rfl⟩
    have hX0 : BX W0 w1.heap.size (w1.heap.size + 1) (w1.heap.size + 2) (.slice A a.length c) (.slice A' b.length c') (.slice A'' p.length c'') := by
      rw [hW0]
      refine ⟨?_, ?_, ?_⟩
      · refine (Below.heap_alloc _ _ _ (by simp <;> omega)).trans ((Below.heap_alloc _ _ _ (by simp <;> omega)).trans (heap_alloc_new' _ _ (by simp)))
      · refine (Below.heap_alloc _ _ _ (by simp)).trans (heap_alloc_new' _ _ (by simp))
      · exact heap_alloc_new' _ _ (by simp)
    have hb0' : Below w.heap.size w W0 := by rw [hW0]; exact ((hb1.alloc hz1 _).alloc (by simp; omega) _).alloc (by simp; omega) _
    have hz0 := hb0'.size
    rw [← hW0]
    clear hW0
    have HP0 := Lib.hid ((HP.below hb0').more hz0)
    clear HP
    go_wp2_with fail
    refine (collect_any w1.heap.size (w1.heap.size + 1) (w1.heap.size + 2) A A' A'' a.length b.length c c' c'' p W0 hX0 hn'' hc'' HP0.out HI.out (by omega) (by omega)).mono ?_
    rintro e w4 ⟨v, rfl, hown, hb4⟩
    obtain ⟨A4, c4, rfl, _, _⟩ := hown.shape
    go_wp2_with fail
    go_ret2
    exact ⟨_, by rw [HL.out]; rfl, by rw [HR.out]; exact hown.lower hz0, hb0'.trans (hb4.mono hz0)⟩
  · have hb0 : (lpairsL a b p != 0) = true := by simp [h0]
    have HR : Hid (lregsL a b p = []) := Lib.hid (by unfold lregsL; rw [if_neg h0])
    clear h0
    go_enter Try.func30, Try.ntmps30
    go_wp2_with fail
    refine H1.out.mono ?_
    rintro e w1 ⟨rfl, hb1⟩
    go_wp2_with fail
    go_ret2
    exact ⟨_, rfl, by rw [HR.out]; exact Own.nil _ _, hb1⟩
end Go.Proofs.Ytbpegoekjlehcaa
