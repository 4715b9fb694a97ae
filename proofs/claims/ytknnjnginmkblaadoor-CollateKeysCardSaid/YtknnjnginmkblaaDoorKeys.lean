/- Walk: the law on keys. -/
import Derived.Test.YtknnjnginmkblaaDoorElements
import Derived.Test.YtknnjnginmkblaaDoorR6
namespace Go.Proofs.YtknnjnginmkblaaDoor
open Go.RowKit

set_option maxRecDepth 100000 in
set_option maxHeartbeats 8000000 in
theorem keys_any (A : ByteArray) (o : Opt) (w : World) :
    Calls Tryd.prog 3 #[.string A, optV o] w fun e w' => e = .returned (.bool true) ∧ Below w.heap.size w w' := by
  obtain ⟨a, ha⟩ : ∃ a, a = cutS A := ⟨_, rfl⟩
  have HA : Hid (∀ w : World, Calls Tryd.prog 14 #[.string A] w fun e w' => e = .returned (.string a) ∧ w = w') := Lib.hid (fun w => by rw [ha]; exact cut_lib A w)
  have hsz : a.size ≤ 200 := by rw [ha]; exact cutS_size A
  have hsz2 : ∀ s ∈ [a], s.size ≤ 4096 := fun s hs => by rw [List.mem_singleton.1 hs]; omega
  have CF : Hid (∀ (v : Value) (w : World), Sl encS 1 w w.heap.size v [a] → Calls Tryd.prog 17 #[optV o, v] w fun e w' => e = .returned (.int .i64 (errC o [a])) ∧ Below w.heap.size w w') := Lib.hid (fun v w h => fault_lib o v [a] w h hsz2)
  have CK := Lib.hid (Key_lib a o)
  have CO := Lib.hid (options_lib o)
  have CR : Hid (errC o [a] = 0 → ∀ w : World, Calls Tryd.prog 18 #[.string a, optV o] w (RkeyE w (keyR o a))) := Lib.hid (fun h w => by
    have hk : keyR o a = keyL o.strength.toNat (bytesN a) (elS o a) := by unfold keyR; rw [if_pos h]
    rw [hk]
    exact rkey_lib a o w (errC_ok h).1 (by omega) ((errC_ok h).2 a (by simp)).2)
  have HZ : Hid (errC o [a] ≠ 0 → keyR o a = []) := Lib.hid (fun h => by unfold keyR; rw [if_neg h])
  have CKN := Lib.hid known_lib
  obtain ⟨E, hE⟩ : ∃ E, E = errC o [a] := ⟨_, rfl⟩
  obtain ⟨L, hL⟩ : ∃ L, L = keyR o a := ⟨_, rfl⟩
  rw [← hE] at CF CK CR HZ
  rw [← hL] at CK CR HZ
  clear ha hsz hsz2 hE hL
  obtain ⟨st, num, ign, up⟩ := o
  change Hid (∀ (v : Value) (w : World), Sl encS 1 w w.heap.size v [a] → Calls Tryd.prog 17 #[.agg #[.int .i64 st, .bool num, .bool ign, .bool up], v] w fun e w' => e = .returned (.int .i64 E) ∧ Below w.heap.size w w') at CF
  change Hid (∀ w : World, Calls Tryd.prog 15 #[.string a, .agg #[.int .i64 st, .bool num, .bool ign, .bool up]] w fun e w' => ∃ t : ByteArray, e = .returned (.tuple #[.string t, .int .i64 E]) ∧ bytesN t = L ∧ Below w.heap.size w w') at CK
  change Hid (∀ w : World, Calls Tryd.prog 19 #[.agg #[.int .i64 st, .bool num, .bool ign, .bool up]] w fun e w' => e = .returned (.agg #[.int .i64 st, .bool num, .bool ign, .bool up]) ∧ Below w.heap.size w w') at CO
  change Hid (E = 0 → ∀ w : World, Calls Tryd.prog 18 #[.string a, .agg #[.int .i64 st, .bool num, .bool ign, .bool up]] w (RkeyE w L)) at CR
  show Calls Tryd.prog 3 #[.string A, .agg #[.int .i64 st, .bool num, .bool ign, .bool up]] w _
  go_enter Tryd.func3, Tryd.ntmps3
  go_wp2_with fail
  refine (HA.out _).mono ?_
  rintro e w1 ⟨rfl, rfl⟩
  have b1 : Below w.heap.size w (w.alloc (.cells #[.int .i64 st, .bool num, .bool ign, .bool up] 23)) := (Below.refl _ _).alloc (Nat.le_refl _) _
  have B1 : BoxG w.heap.size st num ign up (w.alloc (.cells #[.int .i64 st, .bool num, .bool ign, .bool up] 23)) := BoxG.new w st num ign up
  obtain ⟨w1, hw1⟩ : ∃ w1, w1 = w.alloc (.cells #[.int .i64 st, .bool num, .bool ign, .bool up] 23) := ⟨_, rfl⟩
  rw [← hw1] at b1 B1 ⊢
  clear hw1 HA
  obtain ⟨c0, c1, c2, c3⟩ := id B1
  go_wp2_with fail
  refine (CK.out _).mono ?_
  rintro e w2 ⟨t, rfl, ht, hb2⟩
  have HT := Lib.hid ht
  have B2 := B1.over hb2
  have b2 := b1.trans (hb2.mono b1.size)
  clear b1 B1 hb2 c0 c1 c2 c3 CK ht
  go_wp2_with fail
  refine (CKN.out _).mono ?_
  rintro e w3 ⟨rfl, hb3⟩
  have BF := B2.over hb3
  have b3 := b2.trans (hb3.mono b2.size)
  clear hb3 b2 B2 CKN
  obtain ⟨c0, c1, c2, c3⟩ := id BF
  have hfs := Sl.fresh (enc := encS) (fun _ => rfl) w3 9 [a] (by simp [maxLen])
  go_wp2_with fail
  refine (CF.out _ _ ?_).mono ?_
  · rw [show (w3.alloc (Obj.cells #[Value.string a] 9)).heap.size = w3.heap.size + 1 from by simp]
    exact hfs
  rintro e w4 ⟨rfl, hb4⟩
  have b34 : Below w3.heap.size w3 (w3.alloc (Obj.cells #[Value.string a] 9)) := (Below.refl _ _).alloc (Nat.le_refl _) _
  have b4' := b34.trans (hb4.mono b34.size)
  have B4 := BF.over b4'
  have b4 := b3.trans (b4'.mono b3.size)
  clear b34 hb4 b4' b3 CF c0 c1 c2 c3 BF hfs
  obtain ⟨c0, c1, c2, c3⟩ := id B4
  by_cases h0 : E = 0
  · have HR := Lib.hid (CR.out h0)
    subst h0
    clear CR HZ
    go_wp2_with fail
    refine (CO.out _).mono ?_
    rintro e w5 ⟨rfl, hb5⟩
    have b5 := b4.trans (hb5.mono b4.size)
    clear hb5 b4 B4 c0 c1 c2 c3 CO
    go_wp2_with fail
    refine (HR.out _).mono ?_
    rintro e w6 ⟨r, rfl, hr, hb6⟩
    have b6 := b5.trans (hb6.mono b5.size)
    have : r = t := bytesN_inj (hr.trans HT.out.symm)
    subst this
    have hq : (r.toList == r.toList) = true := by simp
    clear hb6 b5 HR hr
    go_wp2_with fail
    go_ret
    exact ⟨ret_bool (by simp), b6⟩
  · have d0 : (E != 0) = true := by simpa using h0
    have : t = ⟨#[]⟩ := bytesN_inj (HT.out.trans (HZ.out h0))
    subst this
    clear CR HZ h0 c0 c1 c2 c3 B4 CO
    go_wp2_with fail
    go_ret
    exact ⟨ret_bool (by first | simp | rfl | decide), b4⟩
end Go.Proofs.YtknnjnginmkblaaDoor
