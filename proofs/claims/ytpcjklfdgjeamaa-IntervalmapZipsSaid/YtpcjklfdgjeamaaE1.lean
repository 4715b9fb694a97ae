/- Walks: equality of maps. -/
import Derived.Test.YtpcjklfdgjeamaaPlay
namespace Go.Proofs.Ytpcjklfdgjeamaa
open Go.RowKit

/-- Two lists of runs: the first place where they differ is none, or there is one. -/
theorem runs_part {R S : List Rn} (hl : R.length = S.length) (hne : R ≠ S) : ∃ k, ∃ h : k < R.length, R[k] ≠ S[k]'(by omega) ∧ ∀ j (hj : j < k), R[j]'(by omega) = S[j]'(by omega) := by
  classical
  have : ∃ k, ∃ h : k < R.length, R[k] ≠ S[k]'(by omega) := by
    apply Classical.byContradiction
    intro h
    apply hne
    apply List.ext_getElem hl
    intro i h1 h2
    apply Classical.byContradiction
    intro hc
    exact h ⟨i, h1, hc⟩
  obtain ⟨k, hk⟩ := this
  induction k using Nat.strongRecOn with
  | ind k ih =>
    by_cases hx : ∃ j, j < k ∧ ∃ h : j < R.length, R[j] ≠ S[j]'(by omega)
    · obtain ⟨j, hj, hj'⟩ := hx
      exact ih j hj hj'
    · obtain ⟨h, hne'⟩ := hk
      refine ⟨k, h, hne', fun j hj => ?_⟩
      apply Classical.byContradiction
      intro hc
      exact hx ⟨j, hj, by omega, hc⟩

set_option maxHeartbeats 1000000 in
theorem eqS_any (va vb : Value) (R S : List Rn) (w : World) (ha : RunsV w w.heap.size va R) (hb : RunsV w w.heap.size vb S) :
    Calls Try.prog 42 #[va, vb] w fun e w' => e = .returned (.bool (decide (R = S))) ∧ ∃ n, w' = w.drewN n := by
  obtain ⟨A, c, rfl, hc1, hc2, hRA⟩ := ha.run
  obtain ⟨B, d, rfl, hd1, hd2, hSB⟩ := hb.run
  have HA := Lib.hid hRA
  have HB := Lib.hid hSB
  clear ha hb hRA hSB
  by_cases hl : R.length = S.length
  · obtain ⟨n, hn⟩ : ∃ n, n = R.length := ⟨_, rfl⟩
    have hm : n = S.length := by omega
    rw [← hn] at hc1 ⊢
    rw [← hm] at hd1 ⊢
    have HN := Lib.hid hn
    have HM := Lib.hid hm
    by_cases he : R = S
    · have HE : Hid (decide (R = S) = true) := Lib.hid (by simpa using he)
      have HRS := Lib.hid he
      clear hl hn hm he
      go_enter Try.func42, Try.ntmps42
      go_wp2
      go_loopw [5, 13] (fun _ iv wr => ∃ (k nq : Nat), k ≤ n ∧ iv = .int .i64 k ∧ wr = w.drewN nq) (fun _ iv _ => n - (intOf iv).toNat)
      case atStart => exact ⟨0, 0, Nat.zero_le _, rfl, rfl⟩
      case round =>
        obtain ⟨k, nq0, hk, rfl, rfl⟩ := hrel
        by_cases hlt : k < n
        · obtain ⟨b, o, rfl, _, g1, g2, g3⟩ := HA.out k (by rw [← HN.out]; exact hlt)
          obtain ⟨b', o', rfl, _, g1', g2', g3'⟩ := HB.out k (by rw [← HM.out]; exact hlt)
          have hxx : R[k]'(by rw [← HN.out]; exact hlt) = S[k]'(by rw [← HM.out]; exact hlt) := by simp only [HRS.out]
          rw [← hxx] at g1' g2' g3'
          obtain ⟨x, hx⟩ : ∃ x, x = R[k]'(by rw [← HN.out]; exact hlt) := ⟨_, rfl⟩
          rw [← hx] at g1 g2 g3 g1' g2' g3'
          obtain ⟨x0, x1, x2⟩ := x
          clear hx hxx
          go_wp2
          go_quiet (fail)
          go_wp2
          go_roundw
          case rel => exact ⟨k + 1, _, by omega, by go_num, rfl⟩
          case measure => simp [intOf]; omega
        · go_wp2
          go_ret
          exact ⟨ret_bool HE.out.symm, _, rfl⟩
    · obtain ⟨q, hq, hqne, hqeq⟩ := runs_part hl he
      have HE : Hid (decide (R = S) = false) := Lib.hid (by simpa using he)
      have HQ : Hid (∀ j, j < q → R[j]? = S[j]?) := Lib.hid fun j hj => by rw [List.getElem?_eq_getElem (by omega), List.getElem?_eq_getElem (by omega), hqeq j hj]
      have hqn : q < n := by omega
      have hqne' : Hid (∃ (x y : Rn), R[q]? = some x ∧ S[q]? = some y ∧ x ≠ y) := Lib.hid ⟨_, _, List.getElem?_eq_getElem hq, List.getElem?_eq_getElem (by omega), hqne⟩
      clear hl hn hm he hqeq hqne
      go_enter Try.func42, Try.ntmps42
      go_wp2
      go_loopw [5, 13] (fun _ iv wr => ∃ (k nq : Nat), k ≤ q ∧ iv = .int .i64 k ∧ wr = w.drewN nq) (fun _ iv _ => n - (intOf iv).toNat)
      case atStart => exact ⟨0, 0, Nat.zero_le _, rfl, rfl⟩
      case round =>
        obtain ⟨k, nq0, hk, rfl, rfl⟩ := hrel
        have hlt : k < n := by omega
        obtain ⟨b, o, rfl, _, g1, g2, g3⟩ := HA.out k (by rw [← HN.out]; exact hlt)
        obtain ⟨b', o', rfl, _, g1', g2', g3'⟩ := HB.out k (by rw [← HM.out]; exact hlt)
        by_cases hkq : k < q
        · have hxx : R[k]'(by rw [← HN.out]; exact hlt) = S[k]'(by rw [← HM.out]; exact hlt) := by
            have := HQ.out k hkq
            rw [List.getElem?_eq_getElem (by rw [← HN.out]; exact hlt), List.getElem?_eq_getElem (by rw [← HM.out]; exact hlt)] at this
            injection this
          rw [← hxx] at g1' g2' g3'
          obtain ⟨x, hx⟩ : ∃ x, x = R[k]'(by rw [← HN.out]; exact hlt) := ⟨_, rfl⟩
          rw [← hx] at g1 g2 g3 g1' g2' g3'
          obtain ⟨x0, x1, x2⟩ := x
          clear hx hxx
          go_wp2
          go_quiet (fail)
          go_wp2
          go_roundw
          case rel => exact ⟨k + 1, _, by omega, by go_num, rfl⟩
          case measure => simp [intOf]; omega
        · obtain rfl : k = q := by omega
          obtain ⟨x, y, hx, hy, hxy⟩ := hqne'.out
          rw [(List.getElem?_eq_some_iff.1 hx).2] at g1 g2 g3
          rw [(List.getElem?_eq_some_iff.1 hy).2] at g1' g2' g3'
          obtain ⟨x0, x1, x2⟩ := x
          obtain ⟨y0, y1, y2⟩ := y
          clear hx hy
          by_cases e0 : x0 = y0
          · subst e0
            by_cases e1 : x1 = y1
            · subst e1
              have e2 : (x2 == y2) = false := by rw [beq_eq_false_iff_ne]; intro h; exact hxy (by rw [h])
              clear hxy
              go_wp2
              go_quiet (fail)
              go_wp2
              go_ret
              exact ⟨ret_bool HE.out.symm, nq0 + nq, by rw [World.drewN_drewN]⟩
            · have e1' : (x1 == y1) = false := by simpa using e1
              clear hxy e1
              go_wp2
              go_quiet (fail)
              go_wp2
              go_ret
              exact ⟨ret_bool HE.out.symm, nq0 + nq, by rw [World.drewN_drewN]⟩
          · have e0' : (x0 == y0) = false := by simpa using e0
            clear hxy e0
            go_wp2
            go_quiet (fail)
            go_wp2
            go_ret
            exact ⟨ret_bool HE.out.symm, nq0 + nq, by rw [World.drewN_drewN]⟩
  · have HE : Hid (decide (R = S) = false) := Lib.hid (by
      have : R ≠ S := fun h => hl (by rw [h])
      simpa using this)
    have hne : ((R.length : Int) != (S.length : Int)) = true := by rw [bne_iff_ne]; omega
    clear hl
    go_enter Try.func42, Try.ntmps42
    go_wp2
    go_ret
    exact ⟨ret_bool HE.out.symm, 0, rfl⟩

theorem eqS_quiet {va vb : Value} {R S : List Rn} {w : World} (ha : RunsV w w.heap.size va R) (hb : RunsV w w.heap.size vb S) (n : Nat) :
    Calls Try.prog 42 #[va, vb] (w.drewN n) fun e w'' => e = .returned (.bool (decide (R = S))) ∧ ∃ k, w'' = w.drewN k := by
  have b := below_drewN (Below.refl w.heap.size w) n
  exact (eqS_any va vb R S _ (ha.over b) (hb.over b)).mono fun e w' ⟨he, k, hw⟩ => ⟨he, n + k, by rw [hw, World.drewN_drewN]⟩
theorem runs_inj (l k : List Int) : decide (runsOf l = runsOf k) = decide (l = k) := by
  congr 1
  rw [eq_iff_iff]
  refine ⟨fun h => ?_, fun h => by rw [h]⟩
  have h1 := (runs_ok l).2.2
  have h2 := (runs_ok k).2.2
  rw [← h1, ← h2, h]

set_option maxHeartbeats 400000 in
theorem equal_any (m m' : Nat) (l k : List Int) (w : World) (h : MapIs w m l) (h' : MapIs w m' k) :
    Calls Try.prog 24 #[.pointer (some ⟨m, 0, none⟩), .pointer (some ⟨m', 0, none⟩)] w fun e w' => e = .returned (.bool (decide (l = k))) ∧ Below w.heap.size w w' := by
  obtain ⟨v, hm, hv⟩ := h
  obtain ⟨v', hm', hv'⟩ := h'
  have c0 : w.cell? ⟨m, 0, none⟩ = some v := blk_cell hm 0
  have c1 : w.cell? ⟨m', 0, none⟩ = some v' := blk_cell hm' 0
  have HQ := Lib.hid (fun n => eqS_quiet hv hv' n)
  rw [runs_inj] at HQ
  obtain ⟨A, c, rfl, _, _, hz⟩ := hv
  obtain ⟨A', c', rfl, _, _, hz'⟩ := hv'
  clear hm hm' hz hz'
  go_enter Try.func24, Try.ntmps24
  go_wp2
  go_quiet ((go_at_call 42; exact HQ.out _))
  go_wp2
  go_ret
  exact ⟨rfl, below_drewN (Below.refl _ _) _⟩
end Go.Proofs.Ytpcjklfdgjeamaa
