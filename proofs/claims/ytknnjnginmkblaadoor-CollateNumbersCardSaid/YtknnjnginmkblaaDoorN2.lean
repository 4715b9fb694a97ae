/- Walk: digits. -/
import Derived.Test.YtknnjnginmkblaaDoorI1
import Derived.Test.YtknnjnginmkblaaDoorN1
namespace Go.Proofs.YtknnjnginmkblaaDoor
open Go.RowKit

theorem one_digit (m : Nat) (hm : m < 9223372036854775808) : ∃ d y q : Nat, y < 256 ∧ q ≤ m ∧ (0 < m → q < m) ∧ (m : Int) % 10 = (d : Int) ∧ IntKind.i64.wrap (48 + (d : Int)) = (y : Int) ∧ (m : Int) / 10 = (q : Int) ∧ Hid (y = 48 + m % 10 ∧ q = m / 10) := by
  refine ⟨m % 10, 48 + m % 10, m / 10, by omega, by omega, by omega, by omega, ?_, ?_, Lib.hid ⟨rfl, rfl⟩⟩
  · rw [IntWalk.i64_in _ (by omega)]; omega
  · omega
theorem cons_bytes (y : Nat) (hy : y < 256) (t : ByteArray) : bytesN (⟨#[UInt8.ofNat y]⟩ ++ t) = y :: bytesN t := by
  rw [bytesN_append, bytesN_one y hy]; rfl

set_option maxRecDepth 100000 in
set_option maxHeartbeats 8000000 in
theorem digits_lib (n z : Nat) (hn : n < 9223372036854775808) (hz : z ≤ 9) (w : World) :
    Calls Tryd.prog 24 #[.int .i64 (n : Int), .int .i64 (z : Int)] w (RkeyE w (List.replicate z 48 ++ decN n)) := by
  obtain ⟨d, y, q, hy, _, _, e1, e2, e3, H⟩ := one_digit n hn
  have kc := conv_one w y hy
  go_enter Tryd.func24, Tryd.ntmps24
  go_upto_region 3 with fail
  have b1 : Below w.heap.size w (w.alloc (.cells #[.int .u8 (y : Int)] 5)) := (Below.refl w.heap.size w).alloc (Nat.le_refl _) _
  obtain ⟨w1, hw1⟩ : ∃ w1, w1 = w.alloc (.cells #[.int .u8 (y : Int)] 5) := ⟨_, rfl⟩
  rw [← hw1] at b1 ⊢
  have HS : Hid (decT q ++ bytesN ⟨#[UInt8.ofNat y]⟩ = decN n) := Lib.hid (by rw [bytesN_one y hy, decN_step n, H.out.1, H.out.2])
  have hsz : (⟨#[UInt8.ofNat y]⟩ : ByteArray).size + q ≤ 1 + n / 10 := by
    have := H.out.2
    have e : (⟨#[UInt8.ofNat y]⟩ : ByteArray).size = 1 := rfl
    omega
  clear hw1 kc e1 e2 e3 H
  go_loopw [0, 5] (fun nv sv wr => ∃ (m : Nat) (t : ByteArray), nv = .int .i64 (m : Int) ∧ sv = .string t ∧ Hid (decT m ++ bytesN t = decN n) ∧ t.size + m ≤ 1 + n / 10 ∧ Below w.heap.size w wr) (fun nv _ _ => (intOf nv).toNat)
  case atStart => exact ⟨q, _, rfl, rfl, HS, hsz, b1⟩
  case round =>
    obtain ⟨m, t, rfl, rfl, HM, hm, hb⟩ := hrel
    clear HS hsz b1 hy
    by_cases h0 : 0 < m
    · have h0' : (0 : Int) < (m : Int) := by omega
      obtain ⟨d, y, q, hy, _, hq, e1, e2, e3, H⟩ := one_digit m (by omega)
      have kc := conv_one wr y hy
      have k1 : 1 + t.size ≤ 9223372036854775807 := by omega
      have k2 : (⟨#[UInt8.ofNat y]⟩ : ByteArray).size + t.size ≤ 9223372036854775807 := k1
      have HN : Hid (decT q ++ bytesN (⟨#[UInt8.ofNat y]⟩ ++ t) = decN n ∧ (⟨#[UInt8.ofNat y]⟩ ++ t : ByteArray).size = 1 + t.size) := Lib.hid ⟨by rw [cons_bytes y hy, H.out.1, H.out.2, ← HM.out, decT_step h0, List.append_assoc]; rfl, by rw [cat_size]; rfl⟩
      have hq2 := hq h0
      clear H HM hq
      go_wp2_with fail
      go_roundw
      case rel => exact ⟨q, _, by go_num, rfl, Lib.hid HN.out.1, by rw [HN.out.2]; omega, hb.alloc hb.size _⟩
      case measure => simp [intOf]; omega
    · have h1 : m = 0 := by omega
      subst h1
      have HT : Hid (bytesN t = decN n) := Lib.hid (by rw [← HM.out]; rfl)
      clear HM h0
      go_wp2_with fail
      go_loopw [5, 6] (fun sv iv wx => ∃ (k : Nat) (u : ByteArray), k ≤ z ∧ sv = .string u ∧ iv = .int .i64 (k : Int) ∧ Hid (bytesN u = List.replicate k 48 ++ decN n) ∧ u.size ≤ 1 + n / 10 + k ∧ wx = wr) (fun _ iv _ => z - (intOf iv).toNat)
      case atStart => exact ⟨0, t, Nat.zero_le _, rfl, rfl, HT, by omega, by first | trivial | rfl⟩
      case round =>
        obtain ⟨k, u, hk, rfl, rfl, HU, hu, hw⟩ := hrel
        subst hw
        clear HT hm
        by_cases hlt : k < z
        · have ek : IntKind.i64.wrap ((k : Int) + 1) = (k : Int) + 1 := IntWalk.i64_in _ (by omega)
          have hlt' : (k : Int) < (z : Int) := by omega
          have k1 : 1 + u.size ≤ 9223372036854775807 := by omega
          have k2 : (⟨#[48]⟩ : ByteArray).size + u.size ≤ 9223372036854775807 := k1
          have HN : Hid (bytesN (⟨#[48]⟩ ++ u) = List.replicate (k + 1) 48 ++ decN n ∧ (⟨#[48]⟩ ++ u : ByteArray).size = 1 + u.size) := Lib.hid ⟨by rw [bytesN_append, HU.out, List.replicate_succ]; rfl, by rw [cat_size]; rfl⟩
          clear HU
          go_wp2_with fail
          go_roundw
          case rel => exact ⟨k + 1, _, by omega, rfl, by go_num, Lib.hid HN.out.1, by rw [HN.out.2]; omega, by first | trivial | rfl⟩
          case measure => simp [intOf]; omega
        · have hkz : k = z := by omega
          subst hkz
          have hlt' : ¬ (k : Int) < (k : Int) := by omega
          go_wp2_with fail
          go_ret
          exact ⟨_, rfl, HU.out, hb⟩
end Go.Proofs.YtknnjnginmkblaaDoor
