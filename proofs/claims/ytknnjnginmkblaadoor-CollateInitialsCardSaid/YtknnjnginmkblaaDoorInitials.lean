/- Walk: the law on headings. -/
import Derived.BigRegion
import Derived.Test.YtknnjnginmkblaaDoorI2
import Derived.Test.YtknnjnginmkblaaDoorStrengths
namespace Go.Proofs.YtknnjnginmkblaaDoor
open Go.RowKit

theorem objO_set3 {w : World} {g : Nat} {st : Int} {num ign up : Bool} (h : w.heap[g]? = some (ObjO st num ign up)) (k : Bool) : (w.setCell ⟨g, 3, none⟩ (.bool k)).heap[g]? = some (ObjO st num ign k) :=
  heap_setCell_same w g 3 _ 23 (.bool k) h

set_option maxRecDepth 100000 in
set_option maxHeartbeats 8000000 in
theorem initials_any (A : ByteArray) (o : Opt) (w : World) :
    Calls Tryd.prog 11 #[.string A, optV o] w fun e w' => e = .returned (.bool true) ∧ Below w.heap.size w w' := by
  obtain ⟨a, ha⟩ : ∃ a, a = cutS A := ⟨_, rfl⟩
  have HA : Hid (∀ w : World, Calls Tryd.prog 14 #[.string A] w fun e w' => e = .returned (.string a) ∧ w = w') := Lib.hid (fun w => by rw [ha]; exact cut_lib A w)
  have hsz : a.size ≤ 200 := by rw [ha]; exact cutS_size A
  have hsz2 : ∀ s ∈ [a], s.size ≤ 4096 := fun s hs => by rw [List.mem_singleton.1 hs]; omega
  have CF : Hid (∀ (v : Value) (w : World), Sl encS 1 w w.heap.size v [a] → Calls Tryd.prog 17 #[optV o, v] w fun e w' => e = .returned (.int .i64 (errC o [a])) ∧ Below w.heap.size w w') := Lib.hid (fun v w h => fault_lib o v [a] w h hsz2)
  have CK := Lib.hid (Initial_lib a o)
  have CO := Lib.hid (options_lib o)
  have CR : Hid (errC o [a] = 0 → ∀ w : World, Calls Tryd.prog 29 #[.string a, optV o] w (RkeyE w (initR o a))) := Lib.hid (fun h w => by
    have hk : initR o a = initL (wts El.p (elS o a)) := by unfold initR; rw [if_pos h]
    rw [hk]
    exact rinitial_lib a o w (by omega) ((errC_ok h).2 a (by simp)).2)
  have CP : Hid (errC o [a] = 0 → ∀ w : World, Calls Tryd.prog 28 #[.string a, optV ⟨5 - o.strength, o.num, o.ign, !o.upper⟩] w (InitE w 0 (initR o a))) := Lib.hid (fun h w => by
    obtain ⟨hst, _⟩ := errC_ok h
    obtain ⟨k, n, i, u⟩ := o
    have hp := initR_pu (k' := 5 - k) (v := !u) (by simp only at hst; omega) h
    have := Initial_lib a ⟨5 - k, n, i, !u⟩ w
    rw [hp.1, hp.2] at this
    exact this)
  have HS : errC o [a] = 0 → 1 ≤ o.strength ∧ o.strength ≤ 4 := fun h => (errC_ok h).1
  have HZ : Hid (errC o [a] ≠ 0 → initR o a = []) := Lib.hid (fun h => by unfold initR; rw [if_neg h])
  have CKN := Lib.hid known_lib
  obtain ⟨E, hE⟩ : ∃ E, E = errC o [a] := ⟨_, rfl⟩
  obtain ⟨L, hL⟩ : ∃ L, L = initR o a := ⟨_, rfl⟩
  rw [← hE] at CF CK CR HZ CP HS
  rw [← hL] at CK CR HZ CP
  clear ha hsz hsz2 hE hL
  obtain ⟨st, num, ign, up⟩ := o
  change Hid (∀ (v : Value) (w : World), Sl encS 1 w w.heap.size v [a] → Calls Tryd.prog 17 #[.agg #[.int .i64 st, .bool num, .bool ign, .bool up], v] w fun e w' => e = .returned (.int .i64 E) ∧ Below w.heap.size w w') at CF
  change Hid (∀ w : World, Calls Tryd.prog 28 #[.string a, .agg #[.int .i64 st, .bool num, .bool ign, .bool up]] w (InitE w E L)) at CK
  change Hid (E = 0 → ∀ w : World, Calls Tryd.prog 28 #[.string a, .agg #[.int .i64 (5 - st), .bool num, .bool ign, .bool !up]] w (InitE w 0 L)) at CP
  change E = 0 → 1 ≤ st ∧ st ≤ 4 at HS
  change Hid (∀ w : World, Calls Tryd.prog 19 #[.agg #[.int .i64 st, .bool num, .bool ign, .bool up]] w fun e w' => e = .returned (.agg #[.int .i64 st, .bool num, .bool ign, .bool up]) ∧ Below w.heap.size w w') at CO
  change Hid (E = 0 → ∀ w : World, Calls Tryd.prog 29 #[.string a, .agg #[.int .i64 st, .bool num, .bool ign, .bool up]] w (RkeyE w L)) at CR
  show Calls Tryd.prog 11 #[.string A, .agg #[.int .i64 st, .bool num, .bool ign, .bool up]] w _
  go_enter Tryd.func11, Tryd.ntmps11
  go_wp2_with fail
  refine (HA.out _).mono ?_
  rintro e w1 ⟨rfl, rfl⟩
  have b1 : Below w.heap.size w (w.alloc (.cells #[.int .i64 st, .bool num, .bool ign, .bool up] 23)) := (Below.refl _ _).alloc (Nat.le_refl _) _
  have B1 := objO_new w st num ign up
  obtain ⟨w1, hw1⟩ : ∃ w1, w1 = w.alloc (.cells #[.int .i64 st, .bool num, .bool ign, .bool up] 23) := ⟨_, rfl⟩
  rw [← hw1] at b1 B1 ⊢
  clear hw1 HA
  obtain ⟨c0, c1, c2, c3, _⟩ := objO_cells B1
  go_wp2_with fail
  refine (CK.out _).mono ?_
  rintro e w2 ⟨t, rfl, ht, hb2⟩
  have HT := Lib.hid ht
  have B2 := objO_over B1 hb2
  have b2 := b1.trans (hb2.mono b1.size)
  clear b1 B1 hb2 c0 c1 c2 c3 CK ht
  go_wp2_with fail
  refine (CKN.out _).mono ?_
  rintro e w3 ⟨rfl, hb3⟩
  have BF := objO_over B2 hb3
  have b3 := b2.trans (hb3.mono b2.size)
  clear hb3 b2 B2 CKN
  obtain ⟨c0, c1, c2, c3, _⟩ := objO_cells BF
  have hfs := Sl.fresh (enc := encS) (fun _ => rfl) w3 9 [a] (by simp [maxLen])
  go_wp2_with fail
  refine (CF.out _ _ ?_).mono ?_
  · rw [show (w3.alloc (Obj.cells #[Value.string a] 9)).heap.size = w3.heap.size + 1 from by simp]
    exact hfs
  rintro e w4 ⟨rfl, hb4⟩
  have b34 : Below w3.heap.size w3 (w3.alloc (Obj.cells #[Value.string a] 9)) := (Below.refl _ _).alloc (Nat.le_refl _) _
  have b4' := b34.trans (hb4.mono b34.size)
  have B4 := objO_over BF b4'
  have b4 := b3.trans (b4'.mono b3.size)
  clear b34 hb4 b4' b3 CF c0 c1 c2 c3 BF hfs
  obtain ⟨c0, c1, c2, c3, _⟩ := objO_cells B4
  by_cases h0 : E = 0
  · have HR := Lib.hid (CR.out h0)
    have HP := Lib.hid (CP.out h0)
    have hs := HS h0
    have ek : IntKind.i64.wrap (5 - st) = 5 - st := IntWalk.i64_in _ (by omega)
    subst h0
    clear CR HZ CP HS
    go_upto_region 9 with fail
    obtain ⟨g, hg⟩ : ∃ g, g = w4.heap.size := ⟨_, rfl⟩
    have G5 : (w4.alloc (.cells #[.int .i64 st, .bool num, .bool ign, .bool up] 23)).heap[g]? = some (ObjO st num ign up) := by rw [hg]; exact objO_new w4 st num ign up
    have b45 : Below w4.heap.size w4 (w4.alloc (.cells #[.int .i64 st, .bool num, .bool ign, .bool up] 23)) := (Below.refl w4.heap.size w4).alloc (Nat.le_refl _) _
    have B5 := objO_over B4 b45
    have b5 := b4.trans (b45.mono b4.size)
    have hwg : w.heap.size < g := by rw [hg]; exact heap_lt B4
    rw [← hg]
    obtain ⟨w5, hw5⟩ : ∃ w5, w5 = w4.alloc (.cells #[.int .i64 st, .bool num, .bool ign, .bool up] 23) := ⟨_, rfl⟩
    rw [← hw5] at G5 B5 b5 ⊢
    clear hw5 b45 b4 B4 c0 c1 c2 c3 hg
    obtain ⟨c0, c1, c2, c3, _⟩ := objO_cells B5
    obtain ⟨d0, d1, d2, d3, _⟩ := objO_cells G5
    have f0 : w5.frozen? ⟨g, 0, none⟩ = false := blk_free G5 0
    have f3 : w5.frozen? ⟨g, 3, none⟩ = false := blk_free G5 3
    have hne : (g == w.heap.size) = false := by rw [beq_eq_false_iff_ne]; omega
    have hne2 : (w.heap.size == g) = false := by rw [beq_eq_false_iff_ne]; omega
    have hne3 : g ≠ w.heap.size := by omega
    have hne4 : w.heap.size ≠ g := by omega
    go_region
    have G6 : (((w5.setCell ⟨g, 0, none⟩ (.int .i64 (5 - st))).setCell ⟨g, 3, none⟩ (.bool !up)).drew).heap[g]? = some (ObjO (5 - st) num ign (!up)) := objO_set3 (objO_set G5 (5 - st)) (!up)
    have B6 : (((w5.setCell ⟨g, 0, none⟩ (.int .i64 (5 - st))).setCell ⟨g, 3, none⟩ (.bool !up)).drew).heap[w.heap.size]? = some (ObjO st num ign up) := by
      show ((w5.setCell ⟨g, 0, none⟩ (.int .i64 (5 - st))).setCell ⟨g, 3, none⟩ (.bool !up)).heap[w.heap.size]? = _
      rw [heap_setCell_other _ ⟨g, 3, none⟩ _ _ (by simpa using hne4), heap_setCell_other _ ⟨g, 0, none⟩ _ _ (by simpa using hne4)]
      exact B5
    have b6 : Below w.heap.size w (((w5.setCell ⟨g, 0, none⟩ (.int .i64 (5 - st))).setCell ⟨g, 3, none⟩ (.bool !up)).drew) := ((b5.setCell (Nat.le_of_lt hwg) _).setCell (Nat.le_of_lt hwg) _).drew
    obtain ⟨w6, hw6⟩ : ∃ w6, w6 = ((w5.setCell ⟨g, 0, none⟩ (.int .i64 (5 - st))).setCell ⟨g, 3, none⟩ (.bool !up)).drew := ⟨_, rfl⟩
    rw [← hw6] at G6 B6 b6 ⊢
    clear hw6 b5 B5 G5 c0 c1 c2 c3 d0 d1 d2 d3 f0 f3 ek hne hne2 hne3 hne4
    obtain ⟨d0, d1, d2, d3, _⟩ := objO_cells G6
    go_wp2_with fail
    refine (HP.out _).mono ?_
    rintro e w7 ⟨u, rfl, hu, hb7⟩
    have B7 := objO_over B6 hb7
    have b7 := b6.trans (hb7.mono b6.size)
    have hut : u = t := bytesN_inj (hu.trans HT.out.symm)
    subst hut
    clear hb7 b6 B6 G6 d0 d1 d2 d3 hwg HP hu
    obtain ⟨c0, c1, c2, c3, _⟩ := objO_cells B7
    go_wp2_with fail
    refine (CO.out _).mono ?_
    rintro e w8 ⟨rfl, hb8⟩
    have b8 := b7.trans (hb8.mono b7.size)
    clear hb8 b7 B7 c0 c1 c2 c3 CO
    go_wp2_with fail
    refine (HR.out _).mono ?_
    rintro e w9 ⟨r, rfl, hr, hb9⟩
    have b9 := b8.trans (hb9.mono b8.size)
    have : r = u := bytesN_inj (hr.trans HT.out.symm)
    subst this
    have hq : (r.toList == r.toList) = true := by simp
    clear hb9 b8 HR hr
    go_wp2_with fail
    go_ret
    exact ⟨ret_bool (by simp), b9⟩
  · have d0 : (E != 0) = true := by simpa using h0
    have : t = ⟨#[]⟩ := bytesN_inj (HT.out.trans (HZ.out h0))
    subst this
    clear CR HZ CP HS h0 c0 c1 c2 c3 B4 CO
    go_wp2_with fail
    go_ret
    exact ⟨ret_bool (by first | simp | rfl | decide), b4⟩
end Go.Proofs.YtknnjnginmkblaaDoor
