/- Walk: the law on beginnings. -/
import Derived.Test.YtknnjnginmkblaaDoorP1
import Derived.Test.YtknnjnginmkblaaDoorStrengths
import Derived.Test.YtknnjnginmkblaaDoorR6
namespace Go.Proofs.YtknnjnginmkblaaDoor
open Go.RowKit

theorem grown_set (w : World) (g j : Nat) (u : Value) : w.grownBy (w.setCell ⟨g, j, none⟩ u) (some g) :=
  ⟨rfl, rfl, rfl, by simp, fun k _ hk => heap_setCell_other w ⟨g, j, none⟩ k u (fun e => hk (by simp [e]))⟩
theorem Own.above {α : Type} {enc : α → List Value} {sz : Nat} {E : TypeId} {w : World} {base : Nat} {v : Value} {l : List α} (h : Own enc sz E w base v l) {g : Nat} (hg : g < base) : v.ownBlock = none ∨ v.ownBlock ≠ some g := by
  have h1 : w.ownsRow base E sz v l.length (l.flatMap enc) := h
  rcases h1.2 with ⟨rfl, _⟩ | ⟨g', cap, cur, rfl, hgb, _⟩
  · exact .inl rfl
  · refine .inr ?_
    simp only [Value.ownBlock]
    intro e
    injection e with e
    omega
theorem objO_set1 {w : World} {g : Nat} {st : Int} {num ign up : Bool} (h : w.heap[g]? = some (ObjO st num ign up)) (k : Bool) : (w.setCell ⟨g, 1, none⟩ (.bool k)).heap[g]? = some (ObjO st k ign up) :=
  heap_setCell_same w g 1 _ 23 (.bool k) h
theorem pre_longer {st : Int} {num ign up : Bool} {a b : ByteArray} (h : errC ⟨st, num, ign, up⟩ [a, b] = 0) (ha : a.size ≤ 200) (hb : b.size ≤ 200) :
    preR ⟨st, false, ign, up⟩ (b ++ a) b = true ∧ errC ⟨st, false, ign, up⟩ [b ++ a, b] = 0 := by
  obtain ⟨hst, hok⟩ := errC_ok h
  obtain ⟨ha1, ha2⟩ := hok a (by simp)
  obtain ⟨hb1, hb2⟩ := hok b (by simp)
  have hbn := bytesN_append b a
  have hp := pts_app _ _ _ (Nat.le_refl _) hb2 ha2
  have hsz : (b ++ a).size ≤ 400 := by
    rw [← bytesN_length, hbn, List.length_append, bytesN_length, bytesN_length]; omega
  have he : errC ⟨st, false, ign, up⟩ [b ++ a, b] = 0 := by
    have hc : chkO st = 0 := if_neg (by simp only at hst; omega)
    unfold errC
    simp only
    rw [if_pos hc]
    simp only [chkS]
    rw [if_neg (by omega), hbn, if_pos hp.1, if_neg (by omega), if_pos hb2]
  refine ⟨?_, he⟩
  unfold preR
  rw [he, elS_app rfl hb2 ha2, wts_app, isPre_app]
  rfl

set_option maxRecDepth 100000 in
set_option maxHeartbeats 8000000 in
theorem prefixes_any (A B : ByteArray) (o : Opt) (w : World) :
    Calls Tryd.prog 12 #[.string A, .string B, optV o] w fun e w' => e = .returned (.bool true) ∧ Below w.heap.size w w' := by
  obtain ⟨a, ha⟩ : ∃ a, a = cutS A := ⟨_, rfl⟩
  obtain ⟨b, hb⟩ : ∃ b, b = cutS B := ⟨_, rfl⟩
  have HA : Hid (∀ w : World, Calls Tryd.prog 14 #[.string A] w fun e w' => e = .returned (.string a) ∧ w = w') := Lib.hid (fun w => by rw [ha]; exact cut_lib A w)
  have HB : Hid (∀ w : World, Calls Tryd.prog 14 #[.string B] w fun e w' => e = .returned (.string b) ∧ w = w') := Lib.hid (fun w => by rw [hb]; exact cut_lib B w)
  have ha2 : a.size ≤ 200 := by rw [ha]; exact cutS_size A
  have hb2 : b.size ≤ 200 := by rw [hb]; exact cutS_size B
  have hsz : ∀ s ∈ [a, b], s.size ≤ 4096 := by
    intro s hs
    simp only [List.mem_cons, List.mem_nil_iff, or_false] at hs
    rcases hs with rfl | rfl <;> omega
  have CF : Hid (∀ (v : Value) (w : World), Sl encS 1 w w.heap.size v [a, b] → Calls Tryd.prog 17 #[optV o, v] w fun e w' => e = .returned (.int .i64 (errC o [a, b])) ∧ Below w.heap.size w w') := Lib.hid (fun v w h => fault_lib o v [a, b] w h hsz)
  have CC := Lib.hid (hasPrefix_lib a b o)
  have CO := Lib.hid (options_lib o)
  have RA : Hid (errC o [a, b] = 0 → ∀ w : World, Calls Tryd.prog 27 #[.string a, optV o] w (ElsE w (elS o a))) := Lib.hid (fun h w => relements_lib a o w (by omega) ((errC_ok h).2 a (by simp)).2)
  have RB : Hid (errC o [a, b] = 0 → ∀ w : World, Calls Tryd.prog 27 #[.string b, optV o] w (ElsE w (elS o b))) := Lib.hid (fun h w => relements_lib b o w (by omega) ((errC_ok h).2 b (by simp)).2)
  have hlx : errC o [a, b] = 0 → (elS o a).length ≤ 1048576 ∧ (elS o b).length ≤ 1048576 := fun h => ⟨by have := elS_len (o := o) (by omega) ((errC_ok h).2 a (by simp)).2; omega, by have := elS_len (o := o) (by omega) ((errC_ok h).2 b (by simp)).2; omega⟩
  have HZ : Hid (errC o [a, b] ≠ 0 → preR o a b = false) := Lib.hid (fun h => by unfold preR; simp [h])
  have HO : Hid (errC o [a, b] = 0 → preR o a b = isPre (wts El.p (elS o a)) (wts El.p (elS o b))) := Lib.hid (fun h => by unfold preR; simp [h])
  have CKN := Lib.hid known_lib
  obtain ⟨st, num, ign, up⟩ := o
  have CL : Hid (errC ⟨st, num, ign, up⟩ [a, b] = 0 → ∀ w : World, Calls Tryd.prog 30 #[.string (b ++ a), .string b, .agg #[.int .i64 st, .bool false, .bool ign, .bool up]] w fun e w' => e = .returned (.tuple #[.bool true, .int .i64 0]) ∧ Below w.heap.size w w') := Lib.hid (fun h w => by
    have hp := hasPrefix_lib (b ++ a) b ⟨st, false, ign, up⟩ w
    obtain ⟨p1, p2⟩ := pre_longer h ha2 hb2
    rw [p1, p2] at hp
    exact hp)
  have hcat : b.size + a.size ≤ 9223372036854775807 := by omega
  obtain ⟨E, hE⟩ : ∃ E, E = errC ⟨st, num, ign, up⟩ [a, b] := ⟨_, rfl⟩
  obtain ⟨R, hR⟩ : ∃ R, R = preR ⟨st, num, ign, up⟩ a b := ⟨_, rfl⟩
  obtain ⟨x, hx⟩ : ∃ x, x = elS ⟨st, num, ign, up⟩ a := ⟨_, rfl⟩
  obtain ⟨y, hy⟩ : ∃ x, x = elS ⟨st, num, ign, up⟩ b := ⟨_, rfl⟩
  rw [← hE] at CF CC RA RB HZ HO hlx CL
  rw [← hR] at CC HZ HO
  rw [← hx] at RA HO hlx
  rw [← hy] at RB HO hlx
  clear ha hb hsz hE hR hx hy ha2 hb2
  change Hid (∀ (v : Value) (w : World), Sl encS 1 w w.heap.size v [a, b] → Calls Tryd.prog 17 #[.agg #[.int .i64 st, .bool num, .bool ign, .bool up], v] w fun e w' => e = .returned (.int .i64 E) ∧ Below w.heap.size w w') at CF
  change Hid (∀ w : World, Calls Tryd.prog 30 #[.string a, .string b, .agg #[.int .i64 st, .bool num, .bool ign, .bool up]] w fun e w' => e = .returned (.tuple #[.bool R, .int .i64 E]) ∧ Below w.heap.size w w') at CC
  change Hid (∀ w : World, Calls Tryd.prog 19 #[.agg #[.int .i64 st, .bool num, .bool ign, .bool up]] w fun e w' => e = .returned (.agg #[.int .i64 st, .bool num, .bool ign, .bool up]) ∧ Below w.heap.size w w') at CO
  change Hid (E = 0 → ∀ w : World, Calls Tryd.prog 27 #[.string a, .agg #[.int .i64 st, .bool num, .bool ign, .bool up]] w (ElsE w x)) at RA
  change Hid (E = 0 → ∀ w : World, Calls Tryd.prog 27 #[.string b, .agg #[.int .i64 st, .bool num, .bool ign, .bool up]] w (ElsE w y)) at RB
  show Calls Tryd.prog 12 #[.string A, .string B, .agg #[.int .i64 st, .bool num, .bool ign, .bool up]] w _
  go_enter Tryd.func12, Tryd.ntmps12
  go_wp2_with fail
  refine (HA.out _).mono ?_
  rintro e w1 ⟨rfl, rfl⟩
  go_wp2_with fail
  refine (HB.out _).mono ?_
  rintro e w1 ⟨rfl, rfl⟩
  have b1 : Below w.heap.size w (w.alloc (.cells #[.int .i64 st, .bool num, .bool ign, .bool up] 23)) := (Below.refl _ _).alloc (Nat.le_refl _) _
  have B1 := objO_new w st num ign up
  obtain ⟨w1, hw1⟩ : ∃ w1, w1 = w.alloc (.cells #[.int .i64 st, .bool num, .bool ign, .bool up] 23) := ⟨_, rfl⟩
  rw [← hw1] at b1 B1 ⊢
  clear hw1 HA HB
  obtain ⟨c0, c1, c2, c3, _⟩ := objO_cells B1
  go_wp2_with fail
  refine (CC.out _).mono ?_
  rintro e w2 ⟨rfl, hb2⟩
  have B2 := objO_over B1 hb2
  have b2 := b1.trans (hb2.mono b1.size)
  clear b1 B1 hb2 c0 c1 c2 c3 CC
  go_wp2_with fail
  refine (CKN.out _).mono ?_
  rintro e w3 ⟨rfl, hb3⟩
  have BF := objO_over B2 hb3
  have b3 := b2.trans (hb3.mono b2.size)
  clear hb3 b2 B2 CKN
  obtain ⟨c0, c1, c2, c3, _⟩ := objO_cells BF
  have hfs := Sl.fresh (enc := encS) (fun _ => rfl) w3 9 [a, b] (by simp [maxLen])
  go_wp2_with fail
  refine (CF.out _ _ ?_).mono ?_
  · rw [show (w3.alloc (Obj.cells #[Value.string a, Value.string b] 9)).heap.size = w3.heap.size + 1 from by simp]
    exact hfs
  rintro e w4 ⟨rfl, hb4⟩
  have b34 : Below w3.heap.size w3 (w3.alloc (Obj.cells #[Value.string a, Value.string b] 9)) := (Below.refl _ _).alloc (Nat.le_refl _) _
  have b4' := b34.trans (hb4.mono b34.size)
  have B4 := objO_over BF b4'
  have b4 := b3.trans (b4'.mono b3.size)
  clear b34 hb4 b4' b3 CF c0 c1 c2 c3 BF hfs
  obtain ⟨c0, c1, c2, c3, _⟩ := objO_cells B4
  by_cases h0 : E = 0
  · have HRA := Lib.hid (RA.out h0)
    have HRB := Lib.hid (RB.out h0)
    have HCL := Lib.hid (CL.out h0)
    have HOO := Lib.hid (HO.out h0)
    obtain ⟨hlx2, hly2⟩ := hlx h0
    subst h0
    clear RA RB CL HZ HO hlx
    have BG : BoxG w.heap.size st num ign up w4 := ⟨c0, c1, c2, c3⟩
    go_wp2_with fail
    go_region_held3 (fun w' => w'.cell? ⟨w.heap.size, 0, none⟩ = some (.int .i64 st) ∧ w'.cell? ⟨w.heap.size, 1, none⟩ = some (.bool num) ∧ w'.cell? ⟨w.heap.size, 2, none⟩ = some (.bool ign) ∧ w'.cell? ⟨w.heap.size, 3, none⟩ = some (.bool up) ∧ BoxG w.heap.size st num ign up w') (first
        | exact BoxG.all BG
        | (go_split_ands; exact BoxG.all (BoxG.over (by assumption) bo1))
        | (go_split_ands; exact BoxG.all (BoxG.over (by assumption) bx1))
        | (go_split_ands; exact BoxG.all (BoxG.over (by assumption) bx2))
        | (go_split_ands; exact BoxG.all (BoxG.over (by assumption) bo2))
        | (go_split_ands; exact BoxG.all (BoxG.over (by assumption) bx3))
        | (go_split_ands; exact BoxG.all (BoxG.over (by assumption) bx4)))
      (first
        | (go_at_call 19; first
            | (have hh := bx2; (with_reducible refine (CO.out _).mono ?_); clear hh; rintro e wo2 ⟨rfl, bo2⟩)
            | ((with_reducible refine (CO.out _).mono ?_); rintro e wo1 ⟨rfl, bo1⟩))
        | (go_at_call 27; (with_reducible refine (HRA.out _).mono ?_); rintro e wx1 ⟨vx, rfl, hsx, bx1⟩)
        | (go_at_call 31; (with_reducible refine (rweights_1 vx x wx1 hsx hlx2).mono ?_); rintro e wx2 ⟨v2, rfl, hO2, bx2⟩)
        | (go_at_call 27; (with_reducible refine (HRB.out _).mono ?_); rintro e wx3 ⟨vy, rfl, hsy, bx3⟩)
        | (go_at_call 31; (with_reducible refine (rweights_1 vy y wx3 hsy hly2).mono ?_); rintro e wx4 ⟨v4, rfl, hO4, bx4⟩))
    have e1 : Below w4.heap.size w4 wo1 := (Below.refl w4.heap.size w4).drew.trans bo1
    have e2 : Below w4.heap.size w4 wx1 := e1.trans (bx1.mono e1.size)
    have e3 : Below w4.heap.size w4 wx2 := e2.trans (bx2.mono e2.size)
    have b24 : Below wx2.heap.size wx2 wx4 := bo2.trans ((bx3.mono bo2.size).trans (bx4.mono (Nat.le_trans bo2.size bx3.size)))
    have e4 : Below w4.heap.size w4 wx4 := e3.trans (b24.mono e3.size)
    have OB := objO_over B4 e4
    have b5 := b4.trans (e4.mono b4.size)
    have hwl : w.heap.size < w4.heap.size := heap_lt B4
    have hX := hO2.over b24
    have hg1 : w.heap.size < wx1.heap.size := Nat.lt_of_lt_of_le hwl e2.size
    have hg3 : w.heap.size < wx3.heap.size := Nat.lt_of_lt_of_le hwl (Nat.le_trans e3.size (Nat.le_trans bo2.size bx3.size))
    have HX := Lib.hid hX
    have HY := Lib.hid hO4
    clear bo1 bx1 bx2 bo2 bx3 bx4 e1 e2 e3 b24 e4 b4 B4 c0 c1 c2 c3 BG hsx hsy hO2 hO4 hX CO HRA HRB
    obtain ⟨c0, c1, c2, c3, _⟩ := objO_cells OB
    have f1 : wx4.frozen? ⟨w.heap.size, 1, none⟩ = false := blk_free OB 1
    go_upto_region 10 with fail
    have O5 := objO_set1 OB false
    have b6 : Below w.heap.size w (wx4.setCell ⟨w.heap.size, 1, none⟩ (.bool false)) := b5.setCell (Nat.le_refl _) _
    have hX5 := HX.out.kept (grown_set wx4 w.heap.size 1 (.bool false)) (HX.out.above hg1)
    have hY5 := HY.out.kept (grown_set wx4 w.heap.size 1 (.bool false)) (HY.out.above hg3)
    obtain ⟨w5, hw5⟩ : ∃ w5, w5 = wx4.setCell ⟨w.heap.size, 1, none⟩ (.bool false) := ⟨_, rfl⟩
    rw [← hw5] at O5 b6 hX5 hY5 ⊢
    have HX5 := Lib.hid hX5
    have HY5 := Lib.hid hY5
    clear hw5 c0 c1 c2 c3 f1 OB b5 HX HY hX5 hY5
    obtain ⟨c0, c1, c2, c3, _⟩ := objO_cells O5
    go_wp2_with fail
    refine (HCL.out _).mono ?_
    rintro e w6 ⟨rfl, hb6⟩
    have b7 := b6.trans (hb6.mono b6.size)
    have CB := Lib.hid (begins_lib v2 v4 _ _ w6 ((HX5.out.over hb6).sl encI_length) ((HY5.out.over hb6).sl encI_length))
    rw [← HOO.out] at CB
    clear hb6 b6 O5 c0 c1 c2 c3 HCL HX5 HY5
    go_wp2_with fail
    refine CB.out.mono ?_
    rintro e w7 ⟨rfl, hb7⟩
    have b8 := b7.trans (hb7.mono b7.size)
    clear hb7 b7 CB
    have hq : (R == R) = true := by simp
    go_wp2_with fail
    go_ret
    exact ⟨ret_bool (by simp), b8⟩
  · have d0 : (E != 0) = true := by simpa using h0
    have hz := HZ.out h0
    subst hz
    clear RA RB CL HZ HO h0 c0 c1 c2 c3 B4 CO hlx
    go_wp2_with fail
    go_ret
    exact ⟨ret_bool (by first | simp | rfl | decide), b4⟩
end Go.Proofs.YtknnjnginmkblaaDoor
