/- Walks: the reference's comparison. -/
import Derived.Test.YtknnjnginmkblaaDoorElements
import Derived.Test.YtknnjnginmkblaaDoorR5
namespace Go.Proofs.YtknnjnginmkblaaDoor
open Go.RowKit

theorem less_ord : ∀ (x y : List UInt8), Op.bytesLess x y = decide (ordL (x.map UInt8.toNat) (y.map UInt8.toNat) = -1)
  | [], [] => rfl
  | [], _ :: _ => rfl
  | _ :: _, [] => rfl
  | a :: x, b :: y => by
    have ih := less_ord x y
    rw [List.map_cons, List.map_cons, ordL_step]
    simp only [Op.bytesLess, ih]
    by_cases h1 : a < b
    · have h1' : a.toNat < b.toNat := h1
      rw [if_pos h1']
      simp [h1]
    · have h1' : ¬ a.toNat < b.toNat := h1
      rw [if_neg h1']
      by_cases h2 : b.toNat < a.toNat
      · rw [if_pos h2]
        have : ¬ a = b := fun h => by rw [h] at h2; omega
        simp [h1, this]
      · rw [if_neg h2]
        have hab : a = b := UInt8.toNat_inj.1 (by omega)
        simp [hab]
theorem toList_data (a : ByteArray) : a.toList.map UInt8.toNat = bytesN a := by
  rw [ByteArray.toList_eq]
  rfl
theorem bl_ord (a b : ByteArray) : Op.bytesLess a.toList b.toList = decide (ordL (bytesN a) (bytesN b) = -1) := by
  rw [less_ord, toList_data, toList_data]
set_option maxRecDepth 100000 in
set_option maxHeartbeats 2000000 in
theorem rbytes_lib (a b : ByteArray) (w : World) : Calls Tryd.prog 22 #[.string a, .string b] w fun e w' => e = .returned (.int .i64 (ordL (bytesN a) (bytesN b))) ∧ w = w' := by
  have hb := bl_ord a b
  have hr := ordL_range (bytesN a) (bytesN b)
  have he : (a.toList == b.toList) = decide (ordL (bytesN a) (bytesN b) = 0) := by
    rw [eq_toList]
    by_cases h : a = b
    · subst h; simp [ordL_refl]
    · have : ordL (bytesN a) (bytesN b) ≠ 0 := fun h2 => h (bytesN_inj (ordL_eq _ _ h2))
      simp [h, this]
  obtain ⟨R, hR⟩ : ∃ R, R = ordL (bytesN a) (bytesN b) := ⟨_, rfl⟩
  rw [← hR] at hb hr he ⊢
  clear hR
  rcases hr with rfl | rfl | rfl
  · have hb' : Op.bytesLess a.toList b.toList = true := by rw [hb]; rfl
    clear hb he
    go_enter Tryd.func22, Tryd.ntmps22
    go_wp2_with fail
    go_ret
    exact ⟨rfl, rfl⟩
  · have hb' : Op.bytesLess a.toList b.toList = false := by rw [hb]; rfl
    have he' : (a.toList == b.toList) = true := by rw [he]; rfl
    clear hb he
    go_enter Tryd.func22, Tryd.ntmps22
    go_wp2_with fail
    go_ret
    exact ⟨rfl, rfl⟩
  · have hb' : Op.bytesLess a.toList b.toList = false := by rw [hb]; rfl
    have he' : (a.toList == b.toList) = false := by rw [he]; rfl
    clear hb he
    go_enter Tryd.func22, Tryd.ntmps22
    go_wp2_with fail
    go_ret
    exact ⟨rfl, rfl⟩

/-- The reference's comparison from a level on. -/
def rT (K M : Nat) (a b : List Nat) (x y : List El) (j : Nat) : Int := if j < M then (if ordL (wts (fld (j + 1)) x) (wts (fld (j + 1)) y) ≠ 0 then ordL (wts (fld (j + 1)) x) (wts (fld (j + 1)) y) else rT K M a b x y (j + 1)) else if K = 4 then ordL a b else 0
termination_by M - j
theorem rT_more {K M : Nat} {a b : List Nat} {x y : List El} {j : Nat} (h : j < M) : rT K M a b x y j = if ordL (wts (fld (j + 1)) x) (wts (fld (j + 1)) y) ≠ 0 then ordL (wts (fld (j + 1)) x) (wts (fld (j + 1)) y) else rT K M a b x y (j + 1) := by
  rw [rT, if_pos h]
theorem rT_end {K M : Nat} {a b : List Nat} {x y : List El} {j : Nat} (h : ¬ j < M) : rT K M a b x y j = if K = 4 then ordL a b else 0 := by
  rw [rT, if_neg h]
theorem rT_eq {K : Nat} (hK : 1 ≤ K ∧ K ≤ 4) (a b : List Nat) (x y : List El) : rT K (min K 3) a b x y 0 = cmpL K a b x y := by
  have h : K = 1 ∨ K = 2 ∨ K = 3 ∨ K = 4 := by omega
  unfold cmpL
  rcases h with rfl | rfl | rfl | rfl
  · rw [show min 1 3 = 1 from rfl, rT_more (by omega), rT_end (by omega)]
    show (if ordL (wts El.p x) (wts El.p y) ≠ 0 then _ else _) = _
    simp
    rfl
  · rw [show min 2 3 = 2 from rfl, rT_more (by omega), rT_more (by omega), rT_end (by omega)]
    show (if ordL (wts El.p x) (wts El.p y) ≠ 0 then _ else if ordL (wts El.s x) (wts El.s y) ≠ 0 then _ else _) = _
    simp
    rfl
  · rw [show min 3 3 = 3 from rfl, rT_more (by omega), rT_more (by omega), rT_more (by omega), rT_end (by omega)]
    show (if ordL (wts El.p x) (wts El.p y) ≠ 0 then _ else if ordL (wts El.s x) (wts El.s y) ≠ 0 then _ else if ordL (wts El.t x) (wts El.t y) ≠ 0 then _ else _) = _
    simp
    rfl
  · rw [show min 4 3 = 3 from rfl, rT_more (by omega), rT_more (by omega), rT_more (by omega), rT_end (by omega)]
    show (if ordL (wts El.p x) (wts El.p y) ≠ 0 then _ else if ordL (wts El.s x) (wts El.s y) ≠ 0 then _ else if ordL (wts El.t x) (wts El.t y) ≠ 0 then _ else _) = _
    simp
    rfl

set_option maxRecDepth 100000 in
set_option maxHeartbeats 4000000 in
theorem rcompare_lib (a b : ByteArray) (o : Opt) (w : World) (h : errC o [a, b] = 0) :
    Calls Tryd.prog 21 #[.string a, .string b, optV o] w fun e w' => e = .returned (.int .i64 (cmpR o a b)) ∧ Below w.heap.size w w' := by
  obtain ⟨hst, hok⟩ := errC_ok h
  obtain ⟨ha1, ha2⟩ := hok a (by simp)
  obtain ⟨hb1, hb2⟩ := hok b (by simp)
  have CA : Hid (∀ w : World, Calls Tryd.prog 27 #[.string a, optV o] w (ElsE w (elS o a))) := Lib.hid (fun w => relements_lib a o w ha1 ha2)
  have CB : Hid (∀ w : World, Calls Tryd.prog 27 #[.string b, optV o] w (ElsE w (elS o b))) := Lib.hid (fun w => relements_lib b o w hb1 hb2)
  have hlx := elS_len (o := o) ha1 ha2
  have hly := elS_len (o := o) hb1 hb2
  have CS : Hid (∀ w : World, Calls Tryd.prog 22 #[.string a, .string b] w fun e w' => e = .returned (.int .i64 (ordL (bytesN a) (bytesN b))) ∧ w = w') := Lib.hid (fun w => rbytes_lib a b w)
  have hR : cmpR o a b = rT o.strength.toNat (min o.strength.toNat 3) (bytesN a) (bytesN b) (elS o a) (elS o b) 0 := by
    unfold cmpR
    rw [if_pos h]
    exact (rT_eq ⟨by omega, by omega⟩ _ _ _ _).symm
  obtain ⟨x, hx⟩ : ∃ x, x = elS o a := ⟨_, rfl⟩
  obtain ⟨y, hy⟩ : ∃ y, y = elS o b := ⟨_, rfl⟩
  obtain ⟨R, hRR⟩ : ∃ R, R = cmpR o a b := ⟨_, rfl⟩
  rw [← hx] at CA hlx hR
  rw [← hy] at CB hly hR
  rw [← hRR] at hR ⊢
  obtain ⟨sa, hsa⟩ : ∃ l, l = bytesN a := ⟨_, rfl⟩
  obtain ⟨sb, hsb⟩ : ∃ l, l = bytesN b := ⟨_, rfl⟩
  rw [← hsa, ← hsb] at CS hR
  clear h hok ha1 ha2 hb1 hb2 hx hy hRR hsa hsb
  obtain ⟨st, num, ign, up⟩ := o
  obtain ⟨K, hK⟩ : ∃ K : Nat, st = (K : Int) := ⟨st.toNat, by have := hst.1; simp only at this; omega⟩
  subst hK
  have hK1 : 1 ≤ K := by have := hst.1; simp only at this; omega
  have hK4 : K ≤ 4 := by have := hst.2; simp only at this; omega
  have e0 : ((⟨(K : Int), num, ign, up⟩ : Opt).strength).toNat = K := by simp
  rw [e0] at hR
  obtain ⟨M, hM⟩ : ∃ M : Nat, M = min K 3 := ⟨_, rfl⟩
  rw [← hM] at hR
  have hM1 : 1 ≤ M ∧ M ≤ 3 := by omega
  have HM := Lib.hid hM
  have HR := Lib.hid hR
  clear hst e0 hM hR
  change Hid (∀ w : World, Calls Tryd.prog 27 #[.string a, .agg #[.int .i64 (K : Int), .bool num, .bool ign, .bool up]] w (ElsE w x)) at CA
  change Hid (∀ w : World, Calls Tryd.prog 27 #[.string b, .agg #[.int .i64 (K : Int), .bool num, .bool ign, .bool up]] w (ElsE w y)) at CB
  show Calls Tryd.prog 21 #[.string a, .string b, .agg #[.int .i64 (K : Int), .bool num, .bool ign, .bool up]] w _
  go_enter Tryd.func21, Tryd.ntmps21
  go_wp2_with fail
  have B0 := Box.start31 w K num ign up
  have b0 : Below w.heap.size w (w.alloc (.cells #[.int .i64 (K : Int), .bool num, .bool ign, .bool up] 31)) := (Below.refl w.heap.size w).alloc (Nat.le_refl _) _
  obtain ⟨w1, hw1⟩ : ∃ w1, w1 = w.alloc (.cells #[.int .i64 (K : Int), .bool num, .bool ign, .bool up] 31) := ⟨_, rfl⟩
  rw [← hw1] at B0 b0 ⊢
  clear hw1
  have BG : BoxG w.heap.size (K : Int) num ign up w1 := B0
  go_region_held3 (fun w' => w'.cell? ⟨w.heap.size, 0, none⟩ = some (.int .i64 (K : Int)) ∧ w'.cell? ⟨w.heap.size, 1, none⟩ = some (.bool num) ∧ w'.cell? ⟨w.heap.size, 2, none⟩ = some (.bool ign) ∧ w'.cell? ⟨w.heap.size, 3, none⟩ = some (.bool up) ∧ BoxG w.heap.size (K : Int) num ign up w') (first
      | exact BoxG.all BG
      | (go_split_ands; exact BoxG.all (BoxG.over (by assumption) bx1))
      | (go_split_ands; exact BoxG.all (BoxG.over (by assumption) bx2)))
    (first
      | (go_at_call 27; (with_reducible refine (CA.out _).mono ?_); rintro e wx1 ⟨vx, rfl, hsx, bx1⟩)
      | (go_at_call 27; (with_reducible refine (CB.out _).mono ?_); rintro e wx2 ⟨vy, rfl, hsy, bx2⟩))
  have b2 : Below w1.heap.size w1 wx2 := (Below.refl w1.heap.size w1).drew.trans (bx1.trans (bx2.mono bx1.size))
  have BB := Lib.hid (BG.over b2)
  have bw : Below w.heap.size w wx2 := b0.trans (b2.mono b0.size)
  have HX := Lib.hid (hsx.over bx2)
  have HY := Lib.hid hsy
  clear b0 B0 BG hsx hsy bx1 bx2 b2 CA CB
  go_wp2_with fail
  go_loopw [9] (fun lv wr => ∃ q : Nat, 1 ≤ q ∧ q ≤ M + 1 ∧ lv = .int .i64 q ∧ Hid (R = rT K M sa sb x y (q - 1)) ∧ Below wx2.heap.size wx2 wr) (fun lv _ => (5 - intOf lv).toNat)
  case atStart => exact ⟨1, by omega, by omega, rfl, HR, Below.refl _ _⟩
  case round =>
    obtain ⟨q, hq1, hq2, rfl, HK, hb⟩ := hrel
    clear HR
    have hbz := hb.size
    obtain ⟨c0, c1, c2, c3⟩ := BB.out.over hb
    have hmn : (if (3 : Int) < (K : Int) then (3 : Int) else (K : Int)) = (M : Int) := by have := HM.out; split <;> omega
    have bwr := bw.trans (hb.mono bw.size)
    by_cases hqM : q ≤ M
    · have dq : decide ((q : Int) ≤ (M : Int)) = true := by simp; omega
      have CX := Lib.hid (rweights_lib q ⟨hq1, by omega⟩ vx x wr (HX.out.over hb) (by omega))
      have CY := Lib.hid (fun (w : World) h => rweights_lib q ⟨hq1, by omega⟩ vy y w ((HY.out.over hb).over h) (by omega))
      have HS : Hid (R = if ordL (wts (fld q) x) (wts (fld q) y) ≠ 0 then ordL (wts (fld q) x) (wts (fld q) y) else rT K M sa sb x y q) := Lib.hid (by
        rw [HK.out, rT_more (by omega), show q - 1 + 1 = q by omega])
      obtain ⟨X, hX⟩ : ∃ X, X = wts (fld q) x := ⟨_, rfl⟩
      obtain ⟨Y, hY⟩ : ∃ Y, Y = wts (fld q) y := ⟨_, rfl⟩
      rw [← hX] at CX HS
      rw [← hY] at CY HS
      obtain ⟨z, hz⟩ : ∃ z, z = ordL X Y := ⟨_, rfl⟩
      have HZ := Lib.hid hz
      rw [← hz] at HS
      have ek : IntKind.i64.wrap ((q : Int) + 1) = (q : Int) + 1 := IntWalk.i64_in _ (by omega)
      clear hX hY hz HK
      go_wp2_with fail
      refine CX.out.mono ?_
      rintro e w4 ⟨v4, rfl, hO4, hb4⟩
      go_wp2_with fail
      refine (CY.out _ hb4).mono ?_
      rintro e w5 ⟨v5, rfl, hO5, hb5⟩
      have CC := Lib.hid (rorder_lib v4 v5 X Y w5 ((hO4.sl encI_length).over hb5) (hO5.sl encI_length))
      rw [← HZ.out] at CC
      have hb6 : Below wx2.heap.size wx2 w5 := hb.trans ((hb4.trans (hb5.mono hb4.size)).mono hb.size)
      have bw6 : Below w.heap.size w w5 := bwr.trans ((hb4.trans (hb5.mono hb4.size)).mono bwr.size)
      clear hO4 hO5 hb4 hb5 CX CY bwr hb c0 c1 c2 c3
      go_wp2_with fail
      refine CC.out.mono ?_
      rintro e w6 ⟨rfl, hb7⟩
      have hb8 := hb6.trans (hb7.mono hb6.size)
      have bw8 := bw6.trans (hb7.mono bw6.size)
      clear CC hb7 hb6 bw6
      by_cases h0 : z = 0
      · have HS2 : Hid (R = rT K M sa sb x y (q + 1 - 1)) := Lib.hid (by rw [HS.out, if_neg (by omega)]; rfl)
        clear HS HZ
        subst h0
        go_wp2_with fail
        go_roundw
        case rel => exact ⟨q + 1, by omega, by omega, by go_num, HS2, hb8⟩
        case measure => simp [intOf]; omega
      · have HS2 : Hid (z = R) := Lib.hid (by rw [HS.out, if_pos h0])
        have d2 : (z != 0) = true := by simpa using h0
        clear HS HZ h0
        go_wp2_with fail
        go_ret
        exact ⟨ret_int HS2.out, bw8⟩
    · have dq : decide ((q : Int) ≤ (M : Int)) = false := by simp; omega
      have HE : Hid (R = if K = 4 then ordL sa sb else 0) := Lib.hid (by rw [HK.out]; exact rT_end (by omega))
      clear HK
      by_cases h4 : K = 4
      · have d4 : ((K : Int) == 4) = true := by simp; omega
        rw [if_pos h4] at HE
        rw [← HE.out] at CS
        clear HE
        go_wp2_with fail
        refine (CS.out _).mono ?_
        rintro e w6 ⟨rfl, rfl⟩
        go_wp2_with fail
        go_ret
        exact ⟨rfl, bwr⟩
      · have d4 : ((K : Int) == 4) = false := by rw [beq_eq_false_iff_ne]; omega
        rw [if_neg h4] at HE
        go_wp2_with fail
        go_ret
        exact ⟨ret_int HE.out.symm, bwr⟩
end Go.Proofs.YtknnjnginmkblaaDoor
