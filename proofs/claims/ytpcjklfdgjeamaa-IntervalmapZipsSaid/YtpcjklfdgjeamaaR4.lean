/- Walk: what compares a map with values. -/
import Derived.Test.YtpcjklfdgjeamaaR3
namespace Go.Proofs.Ytpcjklfdgjeamaa
open Go.RowKit

set_option maxHeartbeats 1000000 in
theorem is_any (m : Nat) (lv : Value) (l : List Int) (w : World) (hm : MapIs w m l) (h : IntsV w w.heap.size lv l) (hl : l.length ≤ 100000) :
    Calls Try.prog 25 #[.pointer (some ⟨m, 0, none⟩), lv] w fun e w' => e = .returned (.bool true) ∧ Below w.heap.size w w' := by
  have hrl := runs_length l
  have HL := Lib.hid (len_b m l w hm)
  obtain ⟨A, c, rfl, hlc, hc, _⟩ := id h
  obtain ⟨n, hn⟩ : ∃ n, n = l.length := ⟨_, rfl⟩
  rw [← hn] at HL hlc hrl hl ⊢
  rw [← hn] at h
  have HN := Lib.hid hn
  clear hn
  go_enter Try.func25, Try.ntmps25
  go_wp2_with fail
  refine HL.out.mono ?_
  rintro e w1 ⟨rfl, b1⟩
  have m1 := hm.below b1
  have h1 := h.over b1
  clear hm h HL
  go_wp2_with fail
  refine (runsM_any m _ w1 m1 (by omega)).mono ?_
  rintro e w2 ⟨v2, rfl, o2, b2⟩
  have b2' := b1.trans (b2.mono b1.size)
  have h2 := h1.over b2
  have s2 := o2.sl encR_length
  clear m1 h1 o2 b1
  go_wp2_with fail
  refine (rruns_any _ l w2 h2 (by have := HN.out; omega)).mono ?_
  rintro e w3 ⟨v3, rfl, o3, b3⟩
  have b3' := b2'.trans (b3.mono b2'.size)
  have s3 := o3.sl encR_length
  obtain ⟨A2, c2, rfl, hc2, hcc2, hR2⟩ := (s2.over b3).run
  obtain ⟨A3, c3, rfl, hc3, hcc3, hR3⟩ := s3.run
  obtain ⟨R, hR⟩ : ∃ R, R = runsOf l := ⟨_, rfl⟩
  rw [← hR] at hR2 hR3 hc2 hc3 hrl ⊢
  have HR2 := Lib.hid hR2
  have HR3 := Lib.hid hR3
  obtain ⟨q, hq⟩ : ∃ q, q = R.length := ⟨_, rfl⟩
  rw [← hq] at hc2 hc3 hrl ⊢
  have HQ := Lib.hid hq
  clear hR hR2 hR3 s2 s3 o3 b2 b2' b3 h2 hq
  go_wp2
  go_loopw [7] (fun iv wr => ∃ (k nq : Nat), k ≤ q ∧ iv = .int .i64 k ∧ wr = w3.drewN nq) (fun iv _ => q - (intOf iv).toNat)
  case atStart => exact ⟨0, 0, Nat.zero_le _, rfl, rfl⟩
  case round =>
    obtain ⟨k, nq0, hk, rfl, rfl⟩ := hrel
    by_cases hlt : k < q
    · obtain ⟨b, oo, rfl, _, g1, g2, g3⟩ := HR2.out k (by rw [← HQ.out]; exact hlt)
      obtain ⟨b', oo', rfl, _, g1', g2', g3'⟩ := HR3.out k (by rw [← HQ.out]; exact hlt)
      obtain ⟨x, hx⟩ : ∃ x, x = R[k]'(by rw [← HQ.out]; exact hlt) := ⟨_, rfl⟩
      rw [← hx] at g1 g2 g3 g1' g2' g3'
      obtain ⟨x0, x1, x2⟩ := x
      have e0 : (x0 != x0) = false := by simp
      have e1 : (x1 != x1) = false := by simp
      have e2 : (x2 != x2) = false := by simp
      clear hx
      go_wp2
      go_quiet (fail)
      go_wp2
      go_roundw
      case rel => exact ⟨k + 1, _, by omega, by go_num, rfl⟩
      case measure => simp [intOf]; omega
    · go_wp2
      go_ret
      exact ⟨rfl, below_drewN b3' _⟩
end Go.Proofs.Ytpcjklfdgjeamaa
