/- Walks: the weights of elements on a level. -/
import Derived.Test.YtknnjnginmkblaaDoorW16
import Derived.Test.YtknnjnginmkblaaDoorW6
import Derived.Test.YtknnjnginmkblaaDoorLib2
namespace Go.Proofs.YtknnjnginmkblaaDoor
open Go.RowKit

def encI (x : Nat) : List Value := [.int .i64 (x : Int)]
theorem encI_length (x : Nat) : (encI x).length = 1 := rfl
theorem encI_each (x : Nat) : ∀ u ∈ encI x, u.oneCell' = true := by intro u hu; rw [List.mem_singleton.1 hu]; rfl
theorem encE_each (x : El) : ∀ u ∈ encE x, u.oneCell' = true := by
  intro u hu
  simp only [encE, List.mem_cons, List.mem_nil_iff, or_false] at hu
  rcases hu with rfl | rfl | rfl <;> rfl
theorem info3 : (Tryd.prog.info? 3).map (fun i => (i.zero, i.size, i.bytes)) = some (some (.int .i64 0), 1, 8) := by kernel_rfl
theorem info58 : (Tryd.prog.info? 58).map (fun i => (i.zero, i.size, i.bytes)) = some (some (.agg #[.int .i64 0, .int .i64 0, .int .i64 0]), 3, 24) := by kernel_rfl
theorem Els.at {w : World} {B n c : Nat} {A : Option Addr} {l : List El} (h : Sl encE 3 w B (.slice A n c) l) (k : Nat) (x : El) (hk : l[k]? = some x) :
    ∃ b o, A = some ⟨b, o, none⟩ ∧ b < B ∧ w.cell? ⟨b, o + k * 3, none⟩ = some (.int .i64 (x.p : Int)) ∧ w.cell? ⟨b, o + k * 3 + 1, none⟩ = some (.int .i64 (x.s : Int)) ∧
      w.cell? ⟨b, o + k * 3 + 2, none⟩ = some (.int .i64 (x.t : Int)) := by
  obtain ⟨A', c', hv, h1, h2, h3⟩ := h
  injection hv with e1 e2 e3
  subst e1 e2 e3
  obtain ⟨b, o, rfl, hb, hc⟩ := h3 (by have := (List.getElem?_eq_some_iff.1 hk).1; omega)
  exact ⟨b, o, rfl, hb, hc k x hk 0 _ rfl, hc k x hk 1 _ rfl, hc k x hk 2 _ rfl⟩
theorem wts_snoc (f : El → Nat) (l : List El) (k : Nat) (x : El) (h : l[k]? = some x) : wts f (l.take (k + 1)) = wts f (l.take k) ++ (if 0 < f x then [f x] else []) := by
  unfold wts
  rw [List.take_add_one, h, List.map_append, List.filter_append]
  congr 1
  by_cases h0 : 0 < f x
  · simp [h0]
  · simp [h0]
theorem wts_len (f : El → Nat) (l : List El) : (wts f l).length ≤ l.length := by
  unfold wts
  exact Nat.le_trans (List.length_filter_le _ _) (by simp)

set_option maxRecDepth 100000 in
set_option maxHeartbeats 2000000 in
theorem weights_one (v : Value) (l : List El) (w : World) (hsl : Sl encE 3 w w.heap.size v l) (hll : l.length ≤ 1048576) :
    Calls Tryd.prog 41 #[v, .func (.func 37) #[] #[]] w fun e w' => ∃ v', e = .returned v' ∧ Own encI 1 3 w' w.heap.size v' (wts El.p l) ∧ Below w.heap.size w w' := by
  obtain ⟨i0, hi, hz0, hz1, hz2⟩ := info_parts info3
  obtain ⟨A, c, rfl, hlc, hcm, _⟩ := id hsl
  unfold maxLen at hcm
  have HE := Lib.hid hsl
  obtain ⟨m, hm⟩ : ∃ m, m = l.length := ⟨_, rfl⟩
  obtain ⟨W, hW⟩ : ∃ W, W = wts El.p l := ⟨_, rfl⟩
  have HW : Hid (W = wts El.p (l.take m)) := Lib.hid (by rw [hW, hm, List.take_length])
  rw [← hW]
  rw [← hm] at HE hlc hll ⊢
  have HM := Lib.hid hm
  clear hsl hm hW
  go_enter Tryd.func41, Tryd.ntmps41
  go_wp2_with fail
  go_loopw [5, 11] (fun ov iv wr => ∃ k : Nat, k ≤ m ∧ iv = .int .i64 k ∧ Own encI 1 3 wr w.heap.size ov (wts El.p (l.take k)) ∧ Below w.heap.size w wr) (fun _ iv _ => m - (intOf iv).toNat)
  case atStart => exact ⟨0, Nat.zero_le _, rfl, Own.nil _ _, Below.refl _ _⟩
  case round =>
    obtain ⟨k, hk, rfl, hown, hb⟩ := hrel
    have hbz := hb.size
    by_cases hlt : k < m
    · obtain ⟨x, hx⟩ : ∃ x, l[k]? = some x := ⟨l[k]'(by rw [← HM.out]; exact hlt), by simp⟩
      obtain ⟨b, o, hA, hbB, c0, c1, c2⟩ := Els.at (Sl.below HE.out hb) k x hx
      subst hA
      have HN : Hid (wts El.p (l.take (k + 1)) = wts El.p (l.take k) ++ (if 0 < x.p then [x.p] else [])) := Lib.hid (wts_snoc El.p l k x hx)
      have hwl : (wts El.p (l.take k)).length ≤ k := Nat.le_trans (wts_len _ _) (by rw [List.length_take]; omega)
      obtain ⟨P, hP⟩ : ∃ P, P = wts El.p (l.take k) := ⟨_, rfl⟩
      rw [← hP] at hown hwl HN
      clear hP
      have CX := Lib.hid (primary_lib x)
      have HX := Lib.hid hx
      clear hx
      obtain ⟨xp, xs, xt⟩ := x
      simp only at c0 c1 c2 HN
      have CX' : Hid (∀ w : World, Calls Tryd.prog 37 #[.agg #[.int .i64 (xp : Int), .int .i64 (xs : Int), .int .i64 (xt : Int)]] w fun e w' => e = .returned (.int .i64 (xp : Int)) ∧ Below w.heap.size w w') := Lib.hid CX.out
      clear CX
      go_wp2_with fail
      refine (CX'.out _).mono ?_
      rintro e w2 ⟨rfl, hb2⟩
      have hO2 : Own encI 1 3 w2 w.heap.size _ P := (Own.alloc hown _).over hb2
      have hb3 : Below w.heap.size w w2 := (hb.alloc hbz _).trans (hb2.mono (by simp; omega))
      have hbz3 := hb3.size
      clear hb2
      by_cases h0 : 0 < xp
      · rw [if_pos h0] at HN
        go_wp2_with (at_builtin; refine wpList_push _ rfl _ _ 42 rfl w.heap.size 3 i0 _ 1 8 Tryd.underlying42 hi hz0 hz1 hz2 rfl (by decide) encI_length encI_each _ P rfl (Own.alloc hO2 _) w2.heap.size 1 xp rfl (cells_new w2 (encI xp) 3) (by omega) (by omega) (by simp; omega) ?_; intro v3 w3 hown3 hg3)
        have hb4 : Below w.heap.size w w3 := (hb3.alloc hbz3 (.cells #[.int .i64 (xp : Int)] 3)).trans (Own.belowG (Own.alloc hO2 (.cells #[.int .i64 (xp : Int)] 3)) (by simp; omega) hg3)
        go_roundw
        case rel => exact ⟨k + 1, by omega, by go_num, by rw [HN.out]; exact hown3, hb4⟩
        case measure => simp [intOf]; omega
      · rw [if_neg h0, List.append_nil] at HN
        go_wp2_with fail
        go_roundw
        case rel => exact ⟨k + 1, by omega, by go_num, by rw [HN.out]; exact hO2, hb3⟩
        case measure => simp [intOf]; omega
    · have hkm : k = m := by omega
      subst hkm
      go_wp2_with fail
      go_ret
      exact ⟨_, rfl, by rw [HW.out]; exact hown, hb⟩

set_option maxRecDepth 100000 in
set_option maxHeartbeats 2000000 in
theorem weights_two (v : Value) (l : List El) (w : World) (hsl : Sl encE 3 w w.heap.size v l) (hll : l.length ≤ 1048576) :
    Calls Tryd.prog 41 #[v, .func (.func 38) #[] #[]] w fun e w' => ∃ v', e = .returned v' ∧ Own encI 1 3 w' w.heap.size v' (wts El.s l) ∧ Below w.heap.size w w' := by
  obtain ⟨i0, hi, hz0, hz1, hz2⟩ := info_parts info3
  obtain ⟨A, c, rfl, hlc, hcm, _⟩ := id hsl
  unfold maxLen at hcm
  have HE := Lib.hid hsl
  obtain ⟨m, hm⟩ : ∃ m, m = l.length := ⟨_, rfl⟩
  obtain ⟨W, hW⟩ : ∃ W, W = wts El.s l := ⟨_, rfl⟩
  have HW : Hid (W = wts El.s (l.take m)) := Lib.hid (by rw [hW, hm, List.take_length])
  rw [← hW]
  rw [← hm] at HE hlc hll ⊢
  have HM := Lib.hid hm
  clear hsl hm hW
  go_enter Tryd.func41, Tryd.ntmps41
  go_wp2_with fail
  go_loopw [5, 11] (fun ov iv wr => ∃ k : Nat, k ≤ m ∧ iv = .int .i64 k ∧ Own encI 1 3 wr w.heap.size ov (wts El.s (l.take k)) ∧ Below w.heap.size w wr) (fun _ iv _ => m - (intOf iv).toNat)
  case atStart => exact ⟨0, Nat.zero_le _, rfl, Own.nil _ _, Below.refl _ _⟩
  case round =>
    obtain ⟨k, hk, rfl, hown, hb⟩ := hrel
    have hbz := hb.size
    by_cases hlt : k < m
    · obtain ⟨x, hx⟩ : ∃ x, l[k]? = some x := ⟨l[k]'(by rw [← HM.out]; exact hlt), by simp⟩
      obtain ⟨b, o, hA, hbB, c0, c1, c2⟩ := Els.at (Sl.below HE.out hb) k x hx
      subst hA
      have HN : Hid (wts El.s (l.take (k + 1)) = wts El.s (l.take k) ++ (if 0 < x.s then [x.s] else [])) := Lib.hid (wts_snoc El.s l k x hx)
      have hwl : (wts El.s (l.take k)).length ≤ k := Nat.le_trans (wts_len _ _) (by rw [List.length_take]; omega)
      obtain ⟨P, hP⟩ : ∃ P, P = wts El.s (l.take k) := ⟨_, rfl⟩
      rw [← hP] at hown hwl HN
      clear hP
      have CX := Lib.hid (secondary_lib x)
      have HX := Lib.hid hx
      clear hx
      obtain ⟨xp, xs, xt⟩ := x
      simp only at c0 c1 c2 HN
      have CX' : Hid (∀ w : World, Calls Tryd.prog 38 #[.agg #[.int .i64 (xp : Int), .int .i64 (xs : Int), .int .i64 (xt : Int)]] w fun e w' => e = .returned (.int .i64 (xs : Int)) ∧ Below w.heap.size w w') := Lib.hid CX.out
      clear CX
      go_wp2_with fail
      refine (CX'.out _).mono ?_
      rintro e w2 ⟨rfl, hb2⟩
      have hO2 : Own encI 1 3 w2 w.heap.size _ P := (Own.alloc hown _).over hb2
      have hb3 : Below w.heap.size w w2 := (hb.alloc hbz _).trans (hb2.mono (by simp; omega))
      have hbz3 := hb3.size
      clear hb2
      by_cases h0 : 0 < xs
      · rw [if_pos h0] at HN
        go_wp2_with (at_builtin; refine wpList_push _ rfl _ _ 42 rfl w.heap.size 3 i0 _ 1 8 Tryd.underlying42 hi hz0 hz1 hz2 rfl (by decide) encI_length encI_each _ P rfl (Own.alloc hO2 _) w2.heap.size 1 xs rfl (cells_new w2 (encI xs) 3) (by omega) (by omega) (by simp; omega) ?_; intro v3 w3 hown3 hg3)
        have hb4 : Below w.heap.size w w3 := (hb3.alloc hbz3 (.cells #[.int .i64 (xs : Int)] 3)).trans (Own.belowG (Own.alloc hO2 (.cells #[.int .i64 (xs : Int)] 3)) (by simp; omega) hg3)
        go_roundw
        case rel => exact ⟨k + 1, by omega, by go_num, by rw [HN.out]; exact hown3, hb4⟩
        case measure => simp [intOf]; omega
      · rw [if_neg h0, List.append_nil] at HN
        go_wp2_with fail
        go_roundw
        case rel => exact ⟨k + 1, by omega, by go_num, by rw [HN.out]; exact hO2, hb3⟩
        case measure => simp [intOf]; omega
    · have hkm : k = m := by omega
      subst hkm
      go_wp2_with fail
      go_ret
      exact ⟨_, rfl, by rw [HW.out]; exact hown, hb⟩

set_option maxRecDepth 100000 in
set_option maxHeartbeats 2000000 in
theorem weights_three (v : Value) (l : List El) (w : World) (hsl : Sl encE 3 w w.heap.size v l) (hll : l.length ≤ 1048576) :
    Calls Tryd.prog 41 #[v, .func (.func 39) #[] #[]] w fun e w' => ∃ v', e = .returned v' ∧ Own encI 1 3 w' w.heap.size v' (wts El.t l) ∧ Below w.heap.size w w' := by
  obtain ⟨i0, hi, hz0, hz1, hz2⟩ := info_parts info3
  obtain ⟨A, c, rfl, hlc, hcm, _⟩ := id hsl
  unfold maxLen at hcm
  have HE := Lib.hid hsl
  obtain ⟨m, hm⟩ : ∃ m, m = l.length := ⟨_, rfl⟩
  obtain ⟨W, hW⟩ : ∃ W, W = wts El.t l := ⟨_, rfl⟩
  have HW : Hid (W = wts El.t (l.take m)) := Lib.hid (by rw [hW, hm, List.take_length])
  rw [← hW]
  rw [← hm] at HE hlc hll ⊢
  have HM := Lib.hid hm
  clear hsl hm hW
  go_enter Tryd.func41, Tryd.ntmps41
  go_wp2_with fail
  go_loopw [5, 11] (fun ov iv wr => ∃ k : Nat, k ≤ m ∧ iv = .int .i64 k ∧ Own encI 1 3 wr w.heap.size ov (wts El.t (l.take k)) ∧ Below w.heap.size w wr) (fun _ iv _ => m - (intOf iv).toNat)
  case atStart => exact ⟨0, Nat.zero_le _, rfl, Own.nil _ _, Below.refl _ _⟩
  case round =>
    obtain ⟨k, hk, rfl, hown, hb⟩ := hrel
    have hbz := hb.size
    by_cases hlt : k < m
    · obtain ⟨x, hx⟩ : ∃ x, l[k]? = some x := ⟨l[k]'(by rw [← HM.out]; exact hlt), by simp⟩
      obtain ⟨b, o, hA, hbB, c0, c1, c2⟩ := Els.at (Sl.below HE.out hb) k x hx
      subst hA
      have HN : Hid (wts El.t (l.take (k + 1)) = wts El.t (l.take k) ++ (if 0 < x.t then [x.t] else [])) := Lib.hid (wts_snoc El.t l k x hx)
      have hwl : (wts El.t (l.take k)).length ≤ k := Nat.le_trans (wts_len _ _) (by rw [List.length_take]; omega)
      obtain ⟨P, hP⟩ : ∃ P, P = wts El.t (l.take k) := ⟨_, rfl⟩
      rw [← hP] at hown hwl HN
      clear hP
      have CX := Lib.hid (tertiary_lib x)
      have HX := Lib.hid hx
      clear hx
      obtain ⟨xp, xs, xt⟩ := x
      simp only at c0 c1 c2 HN
      have CX' : Hid (∀ w : World, Calls Tryd.prog 39 #[.agg #[.int .i64 (xp : Int), .int .i64 (xs : Int), .int .i64 (xt : Int)]] w fun e w' => e = .returned (.int .i64 (xt : Int)) ∧ Below w.heap.size w w') := Lib.hid CX.out
      clear CX
      go_wp2_with fail
      refine (CX'.out _).mono ?_
      rintro e w2 ⟨rfl, hb2⟩
      have hO2 : Own encI 1 3 w2 w.heap.size _ P := (Own.alloc hown _).over hb2
      have hb3 : Below w.heap.size w w2 := (hb.alloc hbz _).trans (hb2.mono (by simp; omega))
      have hbz3 := hb3.size
      clear hb2
      by_cases h0 : 0 < xt
      · rw [if_pos h0] at HN
        go_wp2_with (at_builtin; refine wpList_push _ rfl _ _ 42 rfl w.heap.size 3 i0 _ 1 8 Tryd.underlying42 hi hz0 hz1 hz2 rfl (by decide) encI_length encI_each _ P rfl (Own.alloc hO2 _) w2.heap.size 1 xt rfl (cells_new w2 (encI xt) 3) (by omega) (by omega) (by simp; omega) ?_; intro v3 w3 hown3 hg3)
        have hb4 : Below w.heap.size w w3 := (hb3.alloc hbz3 (.cells #[.int .i64 (xt : Int)] 3)).trans (Own.belowG (Own.alloc hO2 (.cells #[.int .i64 (xt : Int)] 3)) (by simp; omega) hg3)
        go_roundw
        case rel => exact ⟨k + 1, by omega, by go_num, by rw [HN.out]; exact hown3, hb4⟩
        case measure => simp [intOf]; omega
      · rw [if_neg h0, List.append_nil] at HN
        go_wp2_with fail
        go_roundw
        case rel => exact ⟨k + 1, by omega, by go_num, by rw [HN.out]; exact hO2, hb3⟩
        case measure => simp [intOf]; omega
    · have hkm : k = m := by omega
      subst hkm
      go_wp2_with fail
      go_ret
      exact ⟨_, rfl, by rw [HW.out]; exact hown, hb⟩

end Go.Proofs.YtknnjnginmkblaaDoor
