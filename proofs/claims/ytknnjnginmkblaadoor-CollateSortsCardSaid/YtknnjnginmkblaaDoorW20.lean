/- Walks: lists of numbers and strings compared. -/
import Derived.Test.YtknnjnginmkblaaDoorW18
import Derived.Lib.Bytealg
namespace Go.Proofs.YtknnjnginmkblaaDoor
open Go.RowKit

theorem Ints.at {w : World} {B n c : Nat} {A : Option Addr} {l : List Nat} (h : Sl encI 1 w B (.slice A n c) l) (k : Nat) (x : Nat) (hk : l[k]? = some x) :
    ∃ b o, A = some ⟨b, o, none⟩ ∧ b < B ∧ w.cell? ⟨b, o + k, none⟩ = some (.int .i64 (x : Int)) := by
  obtain ⟨A', c', hv, h1, h2, h3⟩ := h
  injection hv with e1 e2 e3
  subst e1 e2 e3
  obtain ⟨b, o, rfl, hb, hc⟩ := h3 (by have := (List.getElem?_eq_some_iff.1 hk).1; omega)
  have := hc k x hk 0 _ rfl
  rw [Nat.mul_one, Nat.add_zero] at this
  exact ⟨b, o, rfl, hb, this⟩

set_option maxRecDepth 100000 in
set_option maxHeartbeats 1000000 in
theorem isNaN_int (x : Int) (w : World) : Calls Tryd.prog 79 #[.int .i64 x] w fun e w' => e = .returned (.bool false) ∧ w = w' := by
  go_enter Tryd.func79, Tryd.ntmps79
  go_wp2_with fail
  go_ret
  exact ⟨ret_bool (by simp), rfl⟩

set_option maxRecDepth 100000 in
set_option maxHeartbeats 1000000 in
theorem compare_int (x y : Nat) (w : World) : Calls Tryd.prog 58 #[.int .i64 (x : Int), .int .i64 (y : Int)] w fun e w' => e = .returned (.int .i64 (cmpN x y)) ∧ w = w' := by
  have h : x < y ∨ y < x ∨ x = y := by omega
  rcases h with h | h | h
  · have HV : Hid (cmpN x y = -1) := Lib.hid (cmpN_lt h)
    have d1 : decide ((x : Int) < y) = true := by simp; omega
    go_enter Tryd.func58, Tryd.ntmps58
    go_wp2_with fail
    refine (isNaN_int _ _).mono ?_
    rintro e w1 ⟨rfl, rfl⟩
    go_wp2_with fail
    refine (isNaN_int _ _).mono ?_
    rintro e w1 ⟨rfl, rfl⟩
    go_wp2_with fail
    go_ret
    exact ⟨ret_int HV.out.symm, rfl⟩
  · have HV : Hid (cmpN x y = 1) := Lib.hid (cmpN_gt h)
    have d1 : decide ((x : Int) < y) = false := by simp; omega
    have d2 : decide ((y : Int) < x) = true := by simp; omega
    go_enter Tryd.func58, Tryd.ntmps58
    go_wp2_with fail
    refine (isNaN_int _ _).mono ?_
    rintro e w1 ⟨rfl, rfl⟩
    go_wp2_with fail
    refine (isNaN_int _ _).mono ?_
    rintro e w1 ⟨rfl, rfl⟩
    go_wp2_with fail
    go_ret
    exact ⟨ret_int HV.out.symm, rfl⟩
  · have HV : Hid (cmpN x y = 0) := Lib.hid (cmpN_eq h)
    have d1 : decide ((x : Int) < y) = false := by simp; omega
    have d2 : decide ((y : Int) < x) = false := by simp; omega
    go_enter Tryd.func58, Tryd.ntmps58
    go_wp2_with fail
    refine (isNaN_int _ _).mono ?_
    rintro e w1 ⟨rfl, rfl⟩
    go_wp2_with fail
    refine (isNaN_int _ _).mono ?_
    rintro e w1 ⟨rfl, rfl⟩
    go_wp2_with fail
    go_ret
    exact ⟨ret_int HV.out.symm, rfl⟩

theorem ordL_at {x y : List Nat} {k a b : Nat} (ha : x[k]? = some a) (hb : y[k]? = some b) : ordL (x.drop k) (y.drop k) = if cmpN a b ≠ 0 then cmpN a b else ordL (x.drop (k + 1)) (y.drop (k + 1)) := by
  obtain ⟨h1, rfl⟩ := List.getElem?_eq_some_iff.1 ha
  obtain ⟨h2, rfl⟩ := List.getElem?_eq_some_iff.1 hb
  rw [List.drop_eq_getElem_cons h1, List.drop_eq_getElem_cons h2, ordL_cons]
theorem ordL_long {x y : List Nat} {k a : Nat} (ha : x[k]? = some a) (hb : y.length ≤ k) : ordL (x.drop k) (y.drop k) = 1 := by
  obtain ⟨h1, rfl⟩ := List.getElem?_eq_some_iff.1 ha
  rw [List.drop_eq_getElem_cons h1, List.drop_eq_nil_of_le hb]
  rfl
theorem ordL_end {x y : List Nat} {k : Nat} (ha : x.length ≤ k) : ordL (x.drop k) (y.drop k) = if k < y.length then -1 else 0 := by
  rw [List.drop_eq_nil_of_le ha]
  by_cases h : k < y.length
  · rw [List.drop_eq_getElem_cons h, if_pos h]; rfl
  · rw [List.drop_eq_nil_of_le (by omega), if_neg h]; rfl

set_option maxRecDepth 100000 in
set_option maxHeartbeats 2000000 in
theorem slicesCompare_lib (u v : Value) (x y : List Nat) (w : World) (hx : Sl encI 1 w w.heap.size u x) (hy : Sl encI 1 w w.heap.size v y) :
    Calls Tryd.prog 40 #[u, v] w fun e w' => e = .returned (.int .i64 (ordL x y)) ∧ w = w' := by
  obtain ⟨A, c, rfl, hlc, hcm, _⟩ := id hx
  obtain ⟨A', c', rfl, hlc', hcm', _⟩ := id hy
  unfold maxLen at hcm hcm'
  obtain ⟨R, hR⟩ : ∃ R, R = ordL x y := ⟨_, rfl⟩
  have HR : Hid (R = ordL (x.drop 0) (y.drop 0)) := Lib.hid (by rw [List.drop_zero, List.drop_zero]; exact hR)
  rw [← hR]
  obtain ⟨m, hm⟩ : ∃ m, m = x.length := ⟨_, rfl⟩
  obtain ⟨n, hn⟩ : ∃ n, n = y.length := ⟨_, rfl⟩
  have HX := Lib.hid hx
  have HY := Lib.hid hy
  rw [← hm] at HX hlc ⊢
  rw [← hn] at HY hlc' ⊢
  have HM := Lib.hid hm
  have HN := Lib.hid hn
  clear hx hy hm hn hR
  go_enter Tryd.func40, Tryd.ntmps40
  go_wp2_with fail
  go_loop [11] (fun iv => ∃ k : Nat, k ≤ m ∧ k ≤ n ∧ iv = .int .i64 k ∧ Hid (R = ordL (x.drop k) (y.drop k))) (fun iv => m - (intOf iv).toNat)
  case atStart => exact ⟨0, Nat.zero_le _, Nat.zero_le _, rfl, HR⟩
  case round =>
    obtain ⟨k, hk, hkn, rfl, HK⟩ := hrel
    clear HR
    by_cases hlt : k < m
    · have hlt' : (k : Int) < m := by omega
      obtain ⟨a, ha⟩ : ∃ a, x[k]? = some a := ⟨x[k]'(by rw [← HM.out]; exact hlt), by simp⟩
      obtain ⟨b, o, hA, hbB, c0⟩ := Ints.at HX.out k a ha
      subst hA
      by_cases hkn2 : k < n
      · have d1 : decide ((n : Int) ≤ k) = false := by simp; omega
        obtain ⟨a2, ha2⟩ : ∃ a, y[k]? = some a := ⟨y[k]'(by rw [← HN.out]; exact hkn2), by simp⟩
        obtain ⟨b', o', hA', hbB', c0'⟩ := Ints.at HY.out k a2 ha2
        subst hA'
        have HS : Hid (R = if cmpN a a2 ≠ 0 then cmpN a a2 else ordL (x.drop (k + 1)) (y.drop (k + 1))) := Lib.hid (by rw [HK.out]; exact ordL_at ha ha2)
        have CC := Lib.hid (compare_int a a2)
        obtain ⟨z, hz⟩ : ∃ z, z = cmpN a a2 := ⟨_, rfl⟩
        rw [← hz] at HS CC
        clear hz HK ha ha2
        by_cases hz : z = 0
        · have HS2 : Hid (R = ordL (x.drop (k + 1)) (y.drop (k + 1))) := Lib.hid (by rw [HS.out, if_neg (by omega)])
          subst hz
          clear HS
          go_wp2_with fail
          refine (CC.out _).mono ?_
          rintro e w1 ⟨rfl, rfl⟩
          go_wp2_with fail
          go_round
          case rel => exact ⟨k + 1, by omega, by omega, by go_num, HS2⟩
          case measure => simp [intOf]; omega
        · have HS2 : Hid (z = R) := Lib.hid (by rw [HS.out, if_pos hz])
          have d2 : (z != 0) = true := by simpa using hz
          clear HS hz
          go_wp2_with fail
          refine (CC.out _).mono ?_
          rintro e w1 ⟨rfl, rfl⟩
          go_wp2_with fail
          go_ret
          exact ⟨ret_int HS2.out, rfl⟩
      · have d1 : decide ((n : Int) ≤ k) = true := by simp; omega
        have d1' : (n : Int) ≤ k := by omega
        have HV : Hid (R = 1) := Lib.hid (by rw [HK.out]; exact ordL_long ha (by rw [← HN.out]; omega))
        clear HK ha
        go_wp2_with fail
        go_ret
        exact ⟨ret_int HV.out.symm, rfl⟩
    · have HV : Hid (R = if k < n then -1 else 0) := Lib.hid (by rw [HK.out, HN.out]; exact ordL_end (by rw [← HM.out]; omega))
      have hkm : k = m := by omega
      subst hkm
      clear HK hlt
      by_cases hkn2 : k < n
      · have d3 : decide ((k : Int) < n) = true := by simp; omega
        rw [if_pos hkn2] at HV
        go_wp2_with fail
        go_ret
        exact ⟨ret_int HV.out.symm, rfl⟩
      · have d3 : decide ((k : Int) < n) = false := by simp; omega
        rw [if_neg hkn2] at HV
        go_wp2_with fail
        go_ret
        exact ⟨ret_int HV.out.symm, rfl⟩

theorem compareBytes_ord : ∀ (a b : List UInt8), Lib.compareBytes a b = ordL (a.map UInt8.toNat) (b.map UInt8.toNat)
  | [], [] => rfl
  | [], _ :: _ => rfl
  | _ :: _, [] => rfl
  | a :: x, b :: y => by
    rw [List.map_cons, List.map_cons, ordL_step, Lib.compareBytes, compareBytes_ord x y]
    rfl
theorem compareBytes_eq (a b : ByteArray) : Lib.compareBytes a.data.toList b.data.toList = ordL (bytesN a) (bytesN b) := by
  rw [compareBytes_ord]
  rfl
set_option maxRecDepth 100000 in
set_option maxHeartbeats 1000000 in
theorem compareString_lib (a b : ByteArray) (w : World) :
    Calls Tryd.prog 59 #[.string a, .string b] w fun e w' => e = .returned (.int .i64 (ordL (bytesN a) (bytesN b))) ∧ w = w' := by
  rw [← compareBytes_eq]
  go_enter Tryd.func59, Tryd.ntmps59
  go_wp2_with fail
  rw [run_callFunc_extern Tryd.func80 (by kernel_rfl) (by kernel_rfl) (by kernel_rfl) (e := Extern.BytealgCompare.compare) (by kernel_rfl), Lib.run_compareString]
  simp only [Result.andThen]
  rw [Oper.upon_value]
  go_wp2_with fail
  go_ret
  exact ⟨rfl, rfl⟩
set_option maxRecDepth 100000 in
set_option maxHeartbeats 1000000 in
theorem stringsCompare_lib (a b : ByteArray) (w : World) :
    Calls Tryd.prog 42 #[.string a, .string b] w fun e w' => e = .returned (.int .i64 (ordL (bytesN a) (bytesN b))) ∧ w = w' := by
  have HC := Lib.hid (compareString_lib a b)
  obtain ⟨R, hR⟩ : ∃ R, R = ordL (bytesN a) (bytesN b) := ⟨_, rfl⟩
  rw [← hR] at HC ⊢
  clear hR
  go_enter Tryd.func42, Tryd.ntmps42
  go_wp2_with fail
  refine (HC.out _).mono ?_
  rintro e w1 ⟨rfl, rfl⟩
  go_wp2_with fail
  go_ret
  exact ⟨rfl, rfl⟩
end Go.Proofs.YtknnjnginmkblaaDoor
