/- Walks: zeros trimmed off the left. -/
import Derived.Test.YtknnjnginmkblaaDoorW12
namespace Go.Proofs.YtknnjnginmkblaaDoor
open Go.RowKit

theorem bytesN_extract (t : ByteArray) (i j : Nat) : bytesN (t.extract i j) = ((bytesN t).take j).drop i := by
  unfold bytesN
  rw [ByteArray.data_extract, Array.toList_extract, List.extract_eq_take_drop, ← List.drop_take, List.map_drop, List.map_take]
theorem bytesN_tail (t : ByteArray) : bytesN (t.extract 1 t.size) = (bytesN t).drop 1 := by
  rw [bytesN_extract, List.take_of_length_le (by rw [bytesN_length]; exact Nat.le_refl _)]
theorem size_tail (t : ByteArray) : (t.extract 1 t.size).size = t.size - 1 := by rw [← bytesN_length, bytesN_tail, List.length_drop, bytesN_length]

set_option maxRecDepth 100000 in
set_option maxHeartbeats 2000000 in
theorem trimByte_lib (s : ByteArray) (w : World) (hs : s.size ≤ 1048576000) :
    Calls Tryd.prog 70 #[.string s, .int .u8 48] w fun e w' => (∃ t : ByteArray, e = .returned (.string t) ∧ bytesN t = (bytesN s).dropWhile (· == 48)) ∧ w = w' := by
  obtain ⟨R, hR⟩ : ∃ R, R = (bytesN s).dropWhile (· == 48) := ⟨_, rfl⟩
  rw [← hR]
  have HR := Lib.hid hR
  clear hR
  go_enter Tryd.func70, Tryd.ntmps70
  go_wp2_with fail
  go_loop [0] (fun v => ∃ t : ByteArray, t.size ≤ 1048576000 ∧ v = .string t ∧ Hid (R = (bytesN t).dropWhile (· == 48))) (fun v => match v with | .string t => t.size | _ => 0)
  case atStart => exact ⟨s, hs, rfl, HR⟩
  case round =>
    obtain ⟨t, ht, rfl, HT⟩ := hrel
    by_cases h0 : 0 < t.size
    · have d0 : decide (0 < (t.size : Int)) = true := by simp; omega
      obtain ⟨c, hc⟩ : ∃ c, t[0].toNat = c := ⟨_, rfl⟩
      have hd := bytesN_drop t 0 h0
      rw [hc, List.drop_zero] at hd
      by_cases h48 : c = 48
      · have e0 : ((c : Int) == 48) = true := by simp; omega
        go_wp2_with fail
        go_round
        case rel => exact ⟨t.extract 1 t.size, by rw [size_tail]; omega, rfl, Lib.hid (by rw [bytesN_tail, HT.out, hd, h48]; rfl)⟩
        case measure =>
          show (t.extract 1 t.size).size < t.size
          rw [size_tail]; omega
      · have e0 : ((c : Int) == 48) = false := by rw [beq_eq_false_iff_ne]; omega
        have HF : Hid (bytesN t = R) := Lib.hid (by rw [HT.out, hd, List.dropWhile_cons_of_neg (by simpa using h48)])
        clear hd HT
        go_wp2_with fail
        go_ret
        exact ⟨⟨_, rfl, HF.out⟩, rfl⟩
    · have d0 : decide (0 < (t.size : Int)) = false := decide_eq_false (by omega)
      have hn : bytesN t = [] := List.eq_nil_of_length_eq_zero (by rw [bytesN_length]; omega)
      have HF : Hid (bytesN t = R) := Lib.hid (by rw [HT.out, hn]; rfl)
      clear HT hn
      go_wp2_with fail
      go_ret
      exact ⟨⟨_, rfl, HF.out⟩, rfl⟩
end Go.Proofs.YtknnjnginmkblaaDoor
