/- Walks: TrimLeft with the cutset of the program. -/
import Derived.Test.YtknnjnginmkblaaDoorW13
namespace Go.Proofs.YtknnjnginmkblaaDoor
open Go.RowKit

theorem lists_ne {x y : ByteArray} (h : x ≠ y) : (x.toList == y.toList) = false := by
  have hb : (x == y) = false := by
    cases hxy : (x == y) with
    | false => rfl
    | true => exact absurd ((Go.MapKept.bytes_beq x y).1 hxy) h
  rw [← beq_toListBytes]; exact hb
theorem nil_ne {s : ByteArray} (h0 : 0 < s.size) : ¬ s.toList = [] := by
  intro h
  have hz : (⟨#[]⟩ : ByteArray).toList = [] := by first | rfl | decide | simp
  have := lists_ne (x := s) (y := ⟨#[]⟩) (by intro e; rw [e] at h0; exact absurd h0 (by decide))
  rw [hz, h] at this
  simp at this

set_option maxRecDepth 100000 in
set_option maxHeartbeats 1000000 in
theorem trim_lib (s : ByteArray) (w : World) (hs : s.size ≤ 1048576000) (h0 : 0 < s.size) :
    Calls Tryd.prog 54 #[.string s, .string ⟨#[48]⟩] w fun e w' => (∃ t : ByteArray, e = .returned (.string t) ∧ bytesN t = (bytesN s).dropWhile (· == 48)) ∧ w = w' := by
  have hf := trimByte_lib s w hs
  obtain ⟨R, hR⟩ : ∃ R, R = (bytesN s).dropWhile (· == 48) := ⟨_, rfl⟩
  rw [← hR] at hf ⊢
  clear hR
  have hn : ¬ s.toList = [] := nil_ne h0
  have hne : (s.toList == []) = false := beq_eq_false_iff_ne.2 hn
  go_enter Tryd.func54, Tryd.ntmps54
  go_wp2_with fail
  refine hf.mono ?_
  rintro e w1 ⟨⟨t, rfl, ht⟩, rfl⟩
  have HT := Lib.hid ht
  clear ht hf
  go_wp2_with fail
  go_ret
  exact ⟨⟨_, rfl, HT.out⟩, rfl⟩
end Go.Proofs.YtknnjnginmkblaaDoor
