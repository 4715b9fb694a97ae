/- Walks: a string valid or not; the code point at an offset. -/
import Derived.Test.YtknnjnginmkblaaDoorW3
namespace Go.Proofs.YtknnjnginmkblaaDoor
open Go.RowKit

theorem drop_ne {s : ByteArray} {k : Nat} (h : k < s.size) : (bytesN s).drop k ≠ [] := by rw [bytesN_drop s k h]; exact List.cons_ne_nil _ _
theorem dec_in {s : ByteArray} {k p n : Nat} (h : k < s.size) (hd : dec1 ((bytesN s).drop k) = some (p, n)) : 1 ≤ n ∧ k + n ≤ s.size ∧ n ≤ 4 ∧ p ≤ 1114111 := by
  obtain ⟨h1, h2, h3⟩ := dec1_size hd
  rw [List.length_drop, bytesN_length] at h2
  exact ⟨h1, by omega, h3, dec1_lt (fun b hb => bytesN_lt s b (List.mem_of_mem_drop hb)) hd⟩
theorem pts_step {s : ByteArray} {k p n : Nat} (hd : dec1 ((bytesN s).drop k) = some (p, n)) : (pts ((bytesN s).drop k)).isSome = (pts ((bytesN s).drop (k + n))).isSome := by
  rw [pts_cons hd, List.drop_drop, Option.isSome_map]

set_option maxRecDepth 100000 in
set_option maxHeartbeats 4000000 in
theorem first_lib (s : ByteArray) (w : World) (hs : s.size ≤ 1048576000) :
    Calls Tryd.prog 67 #[.string s] w fun e w' => (∃ x : Int, e = .returned (.int .i64 x) ∧ (if x < 0 then true else false) = (pts (bytesN s)).isSome) ∧ w = w' := by
  obtain ⟨V, hV⟩ : ∃ V, V = (pts (bytesN s)).isSome := ⟨_, rfl⟩
  have HV : Hid (V = (pts ((bytesN s).drop 0)).isSome) := Lib.hid hV
  rw [← hV]
  clear hV
  go_enter Tryd.func67, Tryd.ntmps67
  go_wp2_with fail
  go_loop [3] (fun kv => ∃ k : Nat, k ≤ s.size ∧ kv = .int .i64 k ∧ Hid (V = (pts ((bytesN s).drop k)).isSome)) (fun kv => s.size - (intOf kv).toNat)
  case atStart => exact ⟨0, by omega, rfl, HV⟩
  case round =>
    obtain ⟨k, hk, rfl, HK⟩ := hrel
    clear HV
    by_cases hlt : k < s.size
    · go_wp2_with fail
      refine (decode_lib s k _ hs hlt).mono ?_
      rintro e w1 ⟨hd, rfl⟩
      cases hR : dec1 ((bytesN s).drop k) with
      | none =>
        rw [hR] at hd
        obtain ⟨x, y, rfl⟩ := hd
        have HF : Hid (V = false) := Lib.hid (by rw [HK.out, pts_bad hR (drop_ne hlt)]; rfl)
        clear hR HK
        go_wp2_with fail
        go_ret
        exact ⟨⟨_, rfl, by rw [HF.out, if_neg (by omega)]⟩, rfl⟩
      | some R =>
        obtain ⟨p, n⟩ := R
        rw [hR] at hd
        have he : e = .returned (.tuple #[.int .i64 (p : Int), .int .i64 (n : Int), .bool true]) := hd
        clear hd
        subst he
        obtain ⟨n1, n2, n3, n4⟩ := dec_in hlt hR
        have HN : Hid (V = (pts ((bytesN s).drop (k + n))).isSome) := Lib.hid (by rw [HK.out, pts_step hR])
        clear hR HK
        have e1 : IntKind.i64.wrap ((k : Int) + n) = (k : Int) + n := IntWalk.i64_in _ (by omega)
        go_wp2_with fail
        go_round
        case rel => exact ⟨k + n, by omega, by go_num, HN⟩
        case measure => simp [intOf]; omega
    · have HF : Hid (V = true) := Lib.hid (by rw [HK.out, List.drop_eq_nil_of_le (by rw [bytesN_length]; omega), pts_nil]; rfl)
      clear HK
      go_wp2_with fail
      go_ret
      exact ⟨⟨_, rfl, by rw [HF.out]; rfl⟩, rfl⟩

set_option maxRecDepth 100000 in
set_option maxHeartbeats 4000000 in
theorem valid_lib (s : ByteArray) (w : World) (hs : s.size ≤ 1048576000) :
    Calls Tryd.prog 52 #[.string s] w fun e w' => e = .returned (.bool (pts (bytesN s)).isSome) ∧ w = w' := by
  have hf := first_lib s w hs
  obtain ⟨V, hV⟩ : ∃ V, V = (pts (bytesN s)).isSome := ⟨_, rfl⟩
  rw [← hV] at hf ⊢
  clear hV
  go_enter Tryd.func52, Tryd.ntmps52
  go_wp2_with fail
  refine hf.mono ?_
  clear hf
  rintro e w1 ⟨⟨x, rfl, hx⟩, rfl⟩
  by_cases h0 : x < 0
  · rw [if_pos h0] at hx
    subst hx
    go_wp2_with fail
    go_ret
    exact ⟨rfl, rfl⟩
  · rw [if_neg h0] at hx
    subst hx
    go_wp2_with fail
    go_ret
    exact ⟨ret_bool (by simp; omega), rfl⟩

set_option maxRecDepth 100000 in
set_option maxHeartbeats 4000000 in
/-- At, at an offset of the string that begins a code point. -/
theorem at_lib (s : ByteArray) (k p n : Nat) (w : World) (hs : s.size ≤ 1048576000) (hk : k < s.size) (hd : dec1 ((bytesN s).drop k) = some (p, n)) :
    Calls Tryd.prog 56 #[.string s, .int .i64 (k : Int)] w fun e w' => e = .returned (.tuple #[.int .i64 (p : Int), .int .i64 (n : Int), .int .i64 0]) ∧ w = w' := by
  have HD := Lib.hid hd
  clear hd
  go_enter Tryd.func56, Tryd.ntmps56
  go_wp2_with fail
  refine (decode_lib s k _ hs hk).mono ?_
  rw [HD.out]
  rintro e w1 ⟨hd, rfl⟩
  have he : e = .returned (.tuple #[.int .i64 (p : Int), .int .i64 (n : Int), .bool true]) := hd
  clear hd
  subst he
  go_wp2_with fail
  go_ret3
  exact ⟨rfl, rfl⟩
end Go.Proofs.YtknnjnginmkblaaDoor
