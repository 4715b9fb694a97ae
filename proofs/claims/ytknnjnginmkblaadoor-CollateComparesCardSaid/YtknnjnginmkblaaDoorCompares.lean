/- Walk: the law on comparisons. -/
import Derived.Test.YtknnjnginmkblaaDoorR7
namespace Go.Proofs.YtknnjnginmkblaaDoor
open Go.RowKit

set_option maxRecDepth 100000 in
set_option maxHeartbeats 8000000 in
theorem compares_any (A B : ByteArray) (o : Opt) (w : World) :
    Calls Tryd.prog 4 #[.string A, .string B, optV o] w fun e w' => e = .returned (.bool true) ∧ Below w.heap.size w w' := by
  obtain ⟨a, ha⟩ : ∃ a, a = cutS A := ⟨_, rfl⟩
  obtain ⟨b, hb⟩ : ∃ b, b = cutS B := ⟨_, rfl⟩
  have HA : Hid (∀ w : World, Calls Tryd.prog 14 #[.string A] w fun e w' => e = .returned (.string a) ∧ w = w') := Lib.hid (fun w => by rw [ha]; exact cut_lib A w)
  have HB : Hid (∀ w : World, Calls Tryd.prog 14 #[.string B] w fun e w' => e = .returned (.string b) ∧ w = w') := Lib.hid (fun w => by rw [hb]; exact cut_lib B w)
  have hsz : ∀ s ∈ [a, b], s.size ≤ 4096 := by
    intro s hs
    have h1 := cutS_size A
    have h2 := cutS_size B
    rw [← ha] at h1; rw [← hb] at h2
    simp only [List.mem_cons, List.mem_nil_iff, or_false] at hs
    rcases hs with rfl | rfl <;> omega
  have CF : Hid (∀ (v : Value) (w : World), Sl encS 1 w w.heap.size v [a, b] → Calls Tryd.prog 17 #[optV o, v] w fun e w' => e = .returned (.int .i64 (errC o [a, b])) ∧ Below w.heap.size w w') := Lib.hid (fun v w h => fault_lib o v [a, b] w h hsz)
  have CC := Lib.hid (compare_lib a b o)
  have KA : Hid (errC o [a, b] = 0 → ∀ w : World, Calls Tryd.prog 15 #[.string a, optV o] w fun e w' => ∃ t : ByteArray, e = .returned (.tuple #[.string t, .int .i64 0]) ∧ bytesN t = keyR o a ∧ Below w.heap.size w w') := Lib.hid (fun h w => by
    have hk := Key_lib a o w
    rw [errC_sub h (by simp)] at hk
    exact hk)
  have KB : Hid (errC o [a, b] = 0 → ∀ w : World, Calls Tryd.prog 15 #[.string b, optV o] w fun e w' => ∃ t : ByteArray, e = .returned (.tuple #[.string t, .int .i64 0]) ∧ bytesN t = keyR o b ∧ Below w.heap.size w w') := Lib.hid (fun h w => by
    have hk := Key_lib b o w
    rw [errC_sub h (by simp)] at hk
    exact hk)
  have CO := Lib.hid (options_lib o)
  have RC : Hid (errC o [a, b] = 0 → ∀ w : World, Calls Tryd.prog 21 #[.string a, .string b, optV o] w fun e w' => e = .returned (.int .i64 (cmpR o a b)) ∧ Below w.heap.size w w') := Lib.hid (fun h w => rcompare_lib a b o w h)
  have HZ : Hid (errC o [a, b] ≠ 0 → cmpR o a b = 0) := Lib.hid (fun h => by unfold cmpR; rw [if_neg h])
  have HO : Hid (errC o [a, b] = 0 → cmpR o a b = ordL (keyR o a) (keyR o b)) := Lib.hid (fun h => cmpR_key h)
  have CKN := Lib.hid known_lib
  obtain ⟨E, hE⟩ : ∃ E, E = errC o [a, b] := ⟨_, rfl⟩
  obtain ⟨R, hR⟩ : ∃ R, R = cmpR o a b := ⟨_, rfl⟩
  obtain ⟨la, hla⟩ : ∃ R, R = keyR o a := ⟨_, rfl⟩
  obtain ⟨lb, hlb⟩ : ∃ R, R = keyR o b := ⟨_, rfl⟩
  rw [← hE] at CF CC KA KB RC HZ HO
  rw [← hR] at CC RC HZ HO
  rw [← hla] at KA HO
  rw [← hlb] at KB HO
  clear ha hb hsz hE hR hla hlb
  obtain ⟨st, num, ign, up⟩ := o
  change Hid (∀ (v : Value) (w : World), Sl encS 1 w w.heap.size v [a, b] → Calls Tryd.prog 17 #[.agg #[.int .i64 st, .bool num, .bool ign, .bool up], v] w fun e w' => e = .returned (.int .i64 E) ∧ Below w.heap.size w w') at CF
  change Hid (∀ w : World, Calls Tryd.prog 20 #[.string a, .string b, .agg #[.int .i64 st, .bool num, .bool ign, .bool up]] w fun e w' => e = .returned (.tuple #[.int .i64 R, .int .i64 E]) ∧ Below w.heap.size w w') at CC
  change Hid (E = 0 → ∀ w : World, Calls Tryd.prog 15 #[.string a, .agg #[.int .i64 st, .bool num, .bool ign, .bool up]] w fun e w' => ∃ t : ByteArray, e = .returned (.tuple #[.string t, .int .i64 0]) ∧ bytesN t = la ∧ Below w.heap.size w w') at KA
  change Hid (E = 0 → ∀ w : World, Calls Tryd.prog 15 #[.string b, .agg #[.int .i64 st, .bool num, .bool ign, .bool up]] w fun e w' => ∃ t : ByteArray, e = .returned (.tuple #[.string t, .int .i64 0]) ∧ bytesN t = lb ∧ Below w.heap.size w w') at KB
  change Hid (∀ w : World, Calls Tryd.prog 19 #[.agg #[.int .i64 st, .bool num, .bool ign, .bool up]] w fun e w' => e = .returned (.agg #[.int .i64 st, .bool num, .bool ign, .bool up]) ∧ Below w.heap.size w w') at CO
  change Hid (E = 0 → ∀ w : World, Calls Tryd.prog 21 #[.string a, .string b, .agg #[.int .i64 st, .bool num, .bool ign, .bool up]] w fun e w' => e = .returned (.int .i64 R) ∧ Below w.heap.size w w') at RC
  show Calls Tryd.prog 4 #[.string A, .string B, .agg #[.int .i64 st, .bool num, .bool ign, .bool up]] w _
  go_enter Tryd.func4, Tryd.ntmps4
  go_wp2_with fail
  refine (HA.out _).mono ?_
  rintro e w1 ⟨rfl, rfl⟩
  go_wp2_with fail
  refine (HB.out _).mono ?_
  rintro e w1 ⟨rfl, rfl⟩
  have b1 : Below w.heap.size w (w.alloc (.cells #[.int .i64 st, .bool num, .bool ign, .bool up] 23)) := (Below.refl _ _).alloc (Nat.le_refl _) _
  have B1 : BoxG w.heap.size st num ign up (w.alloc (.cells #[.int .i64 st, .bool num, .bool ign, .bool up] 23)) := BoxG.new w st num ign up
  obtain ⟨w1, hw1⟩ : ∃ w1, w1 = w.alloc (.cells #[.int .i64 st, .bool num, .bool ign, .bool up] 23) := ⟨_, rfl⟩
  rw [← hw1] at b1 B1 ⊢
  clear hw1 HA HB
  obtain ⟨c0, c1, c2, c3⟩ := id B1
  go_wp2_with fail
  refine (CC.out _).mono ?_
  rintro e w2 ⟨rfl, hb2⟩
  have B2 := B1.over hb2
  have b2 := b1.trans (hb2.mono b1.size)
  clear b1 B1 hb2 c0 c1 c2 c3 CC
  go_wp2_with fail
  refine (CKN.out _).mono ?_
  rintro e w3 ⟨rfl, hb3⟩
  have BF := B2.over hb3
  have b3 := b2.trans (hb3.mono b2.size)
  clear hb3 b2 B2 CKN
  obtain ⟨c0, c1, c2, c3⟩ := id BF
  have hfs := Sl.fresh (enc := encS) (fun _ => rfl) w3 9 [a, b] (by simp [maxLen])
  go_wp2_with fail
  refine (CF.out _ _ ?_).mono ?_
  · rw [show (w3.alloc (Obj.cells #[Value.string a, Value.string b] 9)).heap.size = w3.heap.size + 1 from by simp]
    exact hfs
  rintro e w4 ⟨rfl, hb4⟩
  have b34 : Below w3.heap.size w3 (w3.alloc (Obj.cells #[Value.string a, Value.string b] 9)) := (Below.refl _ _).alloc (Nat.le_refl _) _
  have b4' := b34.trans (hb4.mono b34.size)
  have B4 := BF.over b4'
  have b4 := b3.trans (b4'.mono b3.size)
  clear b34 hb4 b4' b3 CF c0 c1 c2 c3 BF hfs
  obtain ⟨c0, c1, c2, c3⟩ := id B4
  by_cases h0 : E = 0
  · have HKA := Lib.hid (KA.out h0)
    have HKB := Lib.hid (KB.out h0)
    have HRC := Lib.hid (RC.out h0)
    have HOO := Lib.hid (HO.out h0)
    subst h0
    clear KA KB RC HZ HO
    go_wp2_with fail
    refine (HKA.out _).mono ?_
    rintro e w5 ⟨x, rfl, hx, hb5⟩
    have HX := Lib.hid hx
    have B5 := B4.over hb5
    have b5 := b4.trans (hb5.mono b4.size)
    clear hb5 b4 B4 c0 c1 c2 c3 hx
    obtain ⟨c0, c1, c2, c3⟩ := id B5
    go_wp2_with fail
    refine (HKB.out _).mono ?_
    rintro e w6 ⟨y, rfl, hy, hb6⟩
    have HY := Lib.hid hy
    have B6 := B5.over hb6
    have b6 := b5.trans (hb6.mono b5.size)
    clear hb6 b5 B5 c0 c1 c2 c3 hy
    obtain ⟨c0, c1, c2, c3⟩ := id B6
    have CB := Lib.hid (rbytes_lib x y)
    rw [HX.out, HY.out, ← HOO.out] at CB
    clear HKA HKB
    go_wp2_with fail
    refine (CO.out _).mono ?_
    rintro e w7 ⟨rfl, hb7⟩
    have b7 := b6.trans (hb7.mono b6.size)
    clear hb7 b6 B6 c0 c1 c2 c3 CO
    go_wp2_with fail
    refine (HRC.out _).mono ?_
    rintro e w8 ⟨rfl, hb8⟩
    have b8 := b7.trans (hb8.mono b7.size)
    clear hb8 b7 HRC
    have hq : (R == R) = true := by simp
    go_wp2_with fail
    refine (CB.out _).mono ?_
    rintro e w9 ⟨rfl, rfl⟩
    go_wp2_with fail
    go_ret
    exact ⟨ret_bool (by simp), b8⟩
  · have d0 : (E != 0) = true := by simpa using h0
    have hz := HZ.out h0
    subst hz
    clear KA KB RC HZ HO h0 c0 c1 c2 c3 B4 CO
    go_wp2_with fail
    go_ret
    exact ⟨ret_bool (by first | simp | rfl | decide), b4⟩
end Go.Proofs.YtknnjnginmkblaaDoor
