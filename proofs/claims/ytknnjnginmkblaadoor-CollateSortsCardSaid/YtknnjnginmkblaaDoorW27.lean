/- Walks: the law's cut and fault. -/
import Derived.Test.YtknnjnginmkblaaDoorW24
import Derived.Test.YtknnjnginmkblaaDoorW26
namespace Go.Proofs.YtknnjnginmkblaaDoor
open Go.RowKit

def cutS (s : ByteArray) : ByteArray := s.extract 0 (min s.size 200)
theorem cutS_size (s : ByteArray) : (cutS s).size ≤ 200 := by
  unfold cutS
  rw [ByteArray.size_extract]
  omega
set_option maxRecDepth 100000 in
set_option maxHeartbeats 1000000 in
theorem cut_lib (s : ByteArray) (w : World) : Calls Tryd.prog 14 #[.string s] w fun e w' => e = .returned (.string (cutS s)) ∧ w = w' := by
  by_cases h : s.size ≤ 200
  · have HV : Hid (s = cutS s) := Lib.hid (bytesN_inj (by unfold cutS; rw [Nat.min_eq_left h, bytesN_extract, List.drop_zero, List.take_of_length_le (by rw [bytesN_length]; exact Nat.le_refl _)]))
    have d1 : ¬ (200 : Int) < (s.size : Int) := by omega
    have d2 : (s.size : Int) ≤ 200 := by omega
    have d3 : decide ((200 : Int) < (s.size : Int)) = false := by simp; omega
    go_enter Tryd.func14, Tryd.ntmps14
    go_wp2_with fail
    go_ret
    exact ⟨by rw [← HV.out]; rfl, rfl⟩
  · have HV : Hid (s.extract 0 200 = cutS s) := Lib.hid (by unfold cutS; rw [Nat.min_eq_right (by omega)])
    have d1 : (200 : Int) < (s.size : Int) := by omega
    have d3 : decide ((200 : Int) < (s.size : Int)) = true := by simp; omega
    have d4 : (200 : Int) ≤ (s.size : Int) := by omega
    go_enter Tryd.func14, Tryd.ntmps14
    go_wp2_with fail
    go_ret
    exact ⟨by rw [← HV.out]; rfl, rfl⟩

theorem Strs.at {w : World} {B n c : Nat} {A : Option Addr} {l : List ByteArray} (h : Sl encS 1 w B (.slice A n c) l) (k : Nat) (x : ByteArray) (hk : l[k]? = some x) :
    ∃ b o, A = some ⟨b, o, none⟩ ∧ b < B ∧ w.cell? ⟨b, o + k, none⟩ = some (.string x) := by
  obtain ⟨A', c', hv, h1, h2, h3⟩ := h
  injection hv with e1 e2 e3
  subst e1 e2 e3
  obtain ⟨b, o, rfl, hb, hc⟩ := h3 (by have := (List.getElem?_eq_some_iff.1 hk).1; omega)
  have := hc k x hk 0 _ rfl
  rw [Nat.mul_one, Nat.add_zero] at this
  exact ⟨b, o, rfl, hb, this⟩
theorem chkS_small {l : List ByteArray} {k : Nat} {s : ByteArray} (h : l[k]? = some s) (hs : s.size ≤ 4096) : chkS (l.drop k) = if (pts (bytesN s)).isSome = true then chkS (l.drop (k + 1)) else 12 := by
  rw [chkS_drop h, if_neg (by omega)]

set_option maxRecDepth 100000 in
set_option maxHeartbeats 2000000 in
theorem fault_lib (o : Opt) (v : Value) (l : List ByteArray) (w : World) (hv : Sl encS 1 w w.heap.size v l) (hl : ∀ s ∈ l, s.size ≤ 4096) :
    Calls Tryd.prog 17 #[optV o, v] w fun e w' => e = .returned (.int .i64 (errC o l)) ∧ Below w.heap.size w w' := by
  obtain ⟨st, num, ign, up⟩ := o
  obtain ⟨A, cap, rfl, hlc, hcm, _⟩ := id hv
  unfold maxLen at hcm
  obtain ⟨n, hn⟩ : ∃ n, n = l.length := ⟨_, rfl⟩
  have HN := Lib.hid hn
  have HL := Lib.hid hl
  have HV := Lib.hid hv
  have HE0 : Hid (errC ⟨st, num, ign, up⟩ l = if chkO st = 0 then chkS l else chkO st) := Lib.hid rfl
  show Calls Tryd.prog 17 #[.agg #[.int .i64 st, .bool num, .bool ign, .bool up], .slice A l.length cap] w _
  obtain ⟨E, hE⟩ : ∃ E, E = errC ⟨st, num, ign, up⟩ l := ⟨_, rfl⟩
  rw [← hE] at HE0 ⊢
  rw [← hn] at HV hlc ⊢
  clear hv hl hn hE
  have bA : Below w.heap.size w (w.alloc (.cells #[.int .i64 st, .bool num, .bool ign, .bool up] 23)) := (Below.refl w.heap.size w).alloc (Nat.le_refl _) _
  by_cases h1 : st < 1
  · have d1 : decide (st < 1) = true := by simpa using h1
    have HE : Hid (E = 5) := Lib.hid (by
      have hc : chkO st = 5 := if_pos (.inl h1)
      rw [HE0.out, hc]; rfl)
    clear HE0
    go_enter Tryd.func17, Tryd.ntmps17
    go_wp2_with fail
    go_ret
    exact ⟨ret_int HE.out.symm, bA⟩
  have d1 : decide (st < 1) = false := by simpa using h1
  by_cases h2 : 4 < st
  · have d2 : decide (4 < st) = true := by simpa using h2
    have HE : Hid (E = 5) := Lib.hid (by
      have hc : chkO st = 5 := if_pos (.inr h2)
      rw [HE0.out, hc]; rfl)
    clear HE0
    go_enter Tryd.func17, Tryd.ntmps17
    go_wp2_with fail
    go_ret
    exact ⟨ret_int HE.out.symm, bA⟩
  have d2 : decide (4 < st) = false := by simpa using h2
  have HE : Hid (E = chkS (l.drop 0)) := Lib.hid (by
    have hc : chkO st = 0 := if_neg (by omega)
    rw [HE0.out, if_pos hc]; rfl)
  clear HE0
  go_enter Tryd.func17, Tryd.ntmps17
  go_wp2_with fail
  go_loopw [5] (fun iv wr => ∃ k : Nat, k ≤ n ∧ iv = .int .i64 k ∧ Hid (E = chkS (l.drop k)) ∧ Below w.heap.size w wr) (fun iv _ => n - (intOf iv).toNat)
  case atStart => exact ⟨0, Nat.zero_le _, rfl, HE, bA⟩
  case round =>
    obtain ⟨k, hk, rfl, HK, hb⟩ := hrel
    clear HE
    by_cases hlt : k < n
    · have hlt' : (k : Int) < n := by omega
      obtain ⟨x, hx⟩ : ∃ x, l[k]? = some x := ⟨l[k]'(by rw [← HN.out]; exact hlt), by simp⟩
      obtain ⟨b, o, hA, hbB, c0⟩ := Strs.at (Sl.below HV.out hb) k x hx
      subst hA
      have hxs := HL.out x (List.mem_of_getElem? hx)
      have HS : Hid (E = if (pts (bytesN x)).isSome = true then chkS (l.drop (k + 1)) else 12) := Lib.hid (by rw [HK.out]; exact chkS_small hx hxs)
      have CP := Lib.hid (points_lib x · (by omega))
      obtain ⟨V, hV⟩ : ∃ V, V = (pts (bytesN x)).isSome := ⟨_, rfl⟩
      rw [← hV] at HS CP
      clear hV HK hx
      cases V with
      | true =>
        have HS2 : Hid (E = chkS (l.drop (k + 1))) := Lib.hid HS.out
        clear HS
        go_wp2_with fail
        refine (CP.out _).mono ?_
        rintro e w1 ⟨pv, sv, rfl, _, hb1⟩
        have hb2 := hb.trans (hb1.mono hb.size)
        clear hb1
        go_wp2_with fail
        go_roundw
        case rel => exact ⟨k + 1, by omega, by go_num, HS2, hb2⟩
        case measure => simp [intOf]; omega
      | false =>
        have HS2 : Hid (E = 12) := Lib.hid (by rw [HS.out]; rfl)
        clear HS
        go_wp2_with fail
        refine (CP.out _).mono ?_
        rintro e w1 ⟨pv, sv, rfl, _, hb1⟩
        have hb2 := hb.trans (hb1.mono hb.size)
        clear hb1
        go_wp2_with fail
        go_ret
        exact ⟨ret_int HS2.out.symm, hb2⟩
    · have HF : Hid (E = 0) := Lib.hid (by rw [HK.out, List.drop_eq_nil_of_le (by rw [← HN.out]; omega)]; rfl)
      clear HK
      go_wp2_with fail
      go_ret
      exact ⟨ret_int HF.out.symm, hb⟩
end Go.Proofs.YtknnjnginmkblaaDoor
