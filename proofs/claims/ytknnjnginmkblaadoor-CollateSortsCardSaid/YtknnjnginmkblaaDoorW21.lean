/- Walks: Compare. -/
import Derived.Test.YtknnjnginmkblaaDoorW12
import Derived.Test.YtknnjnginmkblaaDoorW19
import Derived.Test.YtknnjnginmkblaaDoorW20
import Derived.Deep.RegionHeld3
namespace Go.Proofs.YtknnjnginmkblaaDoor
open Go.RowKit

theorem numberE_len (l : List Nat) : (numberE l).length ≤ 1 + l.length := by
  unfold numberE
  rw [List.length_cons, List.length_map]
  have := trim0_len l
  omega
theorem tw_dw (l : List Nat) : (l.takeWhile digB).length + (l.dropWhile digB).length = l.length := by
  rw [← List.length_append, List.takeWhile_append_dropWhile]
theorem elemsL_len (o : Opt) : ∀ (f : Nat) (l : List Nat), (elemsL o f l).length ≤ 2 * l.length
  | 0, l => by simp [elemsL]
  | f + 1, [] => by simp [elemsL]
  | f + 1, c :: r => by
    simp only [elemsL]
    split
    · have h1 := numberE_len (c :: r.takeWhile digB)
      have h2 := elemsL_len o f (r.dropWhile digB)
      have h3 := tw_dw r
      rw [List.length_append]
      simp only [List.length_cons] at h1 ⊢
      omega
    · have h1 := point_len c o
      have h2 := elemsL_len o f r
      rw [List.length_append]
      simp only [List.length_cons]
      omega
theorem elems_len (o : Opt) (l : List Nat) : (elems o l).length ≤ 2 * l.length := elemsL_len o l.length l
theorem ptL_len : ∀ (n : Nat) (l : List Nat), l.length ≤ n → (pts l).isSome = true → (ptL l).length ≤ l.length
  | n, [], _, _ => by rw [ptL_nil]; exact Nat.le_refl _
  | 0, _ :: _, h, _ => by simp at h
  | n + 1, c :: r, h, hv => by
    obtain ⟨p, m, hd⟩ := pts_dec hv (by simp)
    obtain ⟨h1, h2⟩ := pts_some hd hv
    obtain ⟨m1, m2, _⟩ := dec1_size hd
    have := ptL_len n ((c :: r).drop m) (by rw [List.length_drop]; omega) h1
    rw [h2, List.length_cons]
    rw [List.length_drop] at this
    omega
/-- The elements of a string that was checked. -/
def elS (o : Opt) (s : ByteArray) : List El := elems o (ptL (bytesN s))
theorem elS_len {o : Opt} {s : ByteArray} (hs : s.size ≤ 4096) (hv : (pts (bytesN s)).isSome = true) : (elS o s).length ≤ 8192 := by
  have h1 := elems_len o (ptL (bytesN s))
  have h2 := ptL_len _ (bytesN s) (Nat.le_refl _) hv
  rw [bytesN_length] at h2
  unfold elS
  omega
/-- The error of options and strings. -/
def errC (o : Opt) (l : List ByteArray) : Int := if chkO o.strength = 0 then chkS l else chkO o.strength
theorem chkS_ok : ∀ (l : List ByteArray), chkS l = 0 → ∀ s ∈ l, s.size ≤ 4096 ∧ (pts (bytesN s)).isSome = true
  | [], _, s, h => by simp at h
  | t :: r, h0, s, h => by
    unfold chkS at h0
    split at h0
    · cases h0
    · split at h0
      · rename_i h1 h2
        rcases List.mem_cons.1 h with rfl | h
        · exact ⟨by omega, h2⟩
        · exact chkS_ok r h0 s h
      · cases h0
theorem errC_ok {o : Opt} {l : List ByteArray} (h : errC o l = 0) : (1 ≤ o.strength ∧ o.strength ≤ 4) ∧ ∀ s ∈ l, s.size ≤ 4096 ∧ (pts (bytesN s)).isSome = true := by
  unfold errC at h
  split at h
  · rename_i h0
    refine ⟨?_, chkS_ok l h⟩
    unfold chkO at h0
    split at h0
    · cases h0
    · omega
  · exact absurd h (by assumption)
theorem errC_same {o o' : Opt} (l : List ByteArray) (h : o.strength = o'.strength) : errC o l = errC o' l := by unfold errC; rw [h]

/-- The comparison from a level on. -/
def cT3 (k : Int) (a b : List Nat) : Int := if k < 4 then 0 else ordL a b
def cT2 (k : Int) (a b : List Nat) (x y : List El) : Int := if k ≤ 2 then 0 else if ordL (wts El.t x) (wts El.t y) ≠ 0 then ordL (wts El.t x) (wts El.t y) else cT3 k a b
def cT1 (k : Int) (a b : List Nat) (x y : List El) : Int := if k ≤ 1 then 0 else if ordL (wts El.s x) (wts El.s y) ≠ 0 then ordL (wts El.s x) (wts El.s y) else cT2 k a b x y
def cT0 (k : Int) (a b : List Nat) (x y : List El) : Int := if k ≤ 0 then 0 else if ordL (wts El.p x) (wts El.p y) ≠ 0 then ordL (wts El.p x) (wts El.p y) else cT1 k a b x y
def cTi (k : Int) (a b : List Nat) (x y : List El) (i : Nat) : Int := match i with | 0 => cT0 k a b x y | 1 => cT1 k a b x y | 2 => cT2 k a b x y | _ => cT3 k a b
theorem cT0_eq {k : Int} (h : 1 ≤ k ∧ k ≤ 4) (a b : List Nat) (x y : List El) : cT0 k a b x y = cmpL k.toNat a b x y := by
  have hk : k = 1 ∨ k = 2 ∨ k = 3 ∨ k = 4 := by omega
  unfold cT0 cT1 cT2 cT3 cmpL
  rcases hk with rfl | rfl | rfl | rfl
  all_goals simp
  all_goals (repeat' split)
  all_goals first | rfl | omega | simp_all
/-- What Compare answers. -/
def cmpR (o : Opt) (a b : ByteArray) : Int := if errC o [a, b] = 0 then cmpL o.strength.toNat (bytesN a) (bytesN b) (elS o a) (elS o b) else 0

set_option maxRecDepth 100000 in
set_option maxHeartbeats 4000000 in
theorem compare_lib (a b : ByteArray) (o : Opt) (w : World) :
    Calls Tryd.prog 20 #[.string a, .string b, optV o] w fun e w' => e = .returned (.tuple #[.int .i64 (cmpR o a b), .int .i64 (errC o [a, b])]) ∧ Below w.heap.size w w' := by
  have CK : Hid (∀ (v : Value) (w : World), Sl encS 1 w w.heap.size v [a, b] → Calls Tryd.prog 34 #[optV o, v] w fun e w' => e = .returned (.int .i64 (errC o [a, b])) ∧ Below w.heap.size w w') := Lib.hid (fun v w h => checkS_lib o v [a, b] w h)
  obtain ⟨E, hE⟩ : ∃ E, E = errC o [a, b] := ⟨_, rfl⟩
  rw [← hE] at CK ⊢
  by_cases h0 : E = 0
  · have hR : cmpR o a b = cTi o.strength (bytesN a) (bytesN b) (elS o a) (elS o b) 0 := by
      unfold cmpR
      rw [← hE, if_pos h0]
      exact (cT0_eq (errC_ok (hE.symm.trans h0)).1 _ _ _ _).symm
    obtain ⟨hst, hok⟩ := errC_ok (hE.symm.trans h0)
    obtain ⟨ha1, ha2⟩ := hok a (by simp)
    obtain ⟨hb1, hb2⟩ := hok b (by simp)
    have CA : Hid (∀ w : World, Calls Tryd.prog 36 #[.string a, optV o] w (ElsE w (elS o a))) := Lib.hid (fun w => elements_lib a o w (by omega) ha2)
    have CB : Hid (∀ w : World, Calls Tryd.prog 36 #[.string b, optV o] w (ElsE w (elS o b))) := Lib.hid (fun w => elements_lib b o w (by omega) hb2)
    have hlx := elS_len (o := o) ha1 ha2
    have hly := elS_len (o := o) hb1 hb2
    have CS : Hid (∀ w : World, Calls Tryd.prog 42 #[.string a, .string b] w fun e w' => e = .returned (.int .i64 (ordL (bytesN a) (bytesN b))) ∧ w = w') := Lib.hid (fun w => stringsCompare_lib a b w)
    obtain ⟨x, hx⟩ : ∃ x, x = elS o a := ⟨_, rfl⟩
    obtain ⟨y, hy⟩ : ∃ y, y = elS o b := ⟨_, rfl⟩
    obtain ⟨R, hRR⟩ : ∃ R, R = cmpR o a b := ⟨_, rfl⟩
    rw [← hx] at CA hlx hR
    rw [← hy] at CB hly hR
    rw [← hRR] at hR ⊢
    obtain ⟨sa, hsa⟩ : ∃ l, l = bytesN a := ⟨_, rfl⟩
    obtain ⟨sb, hsb⟩ : ∃ l, l = bytesN b := ⟨_, rfl⟩
    rw [← hsa, ← hsb] at CS hR
    clear hE hok ha1 ha2 hb1 hb2 hx hy hRR hsa hsb
    subst h0
    obtain ⟨st, num, ign, up⟩ := o
    have HR : Hid (R = cTi st sa sb x y 0) := Lib.hid hR
    have hst1 : 1 ≤ st := hst.1
    have hst4 : st ≤ 4 := hst.2
    clear hR hst
    change Hid (∀ w : World, Calls Tryd.prog 36 #[.string a, .agg #[.int .i64 st, .bool num, .bool ign, .bool up]] w (ElsE w x)) at CA
    change Hid (∀ w : World, Calls Tryd.prog 36 #[.string b, .agg #[.int .i64 st, .bool num, .bool ign, .bool up]] w (ElsE w y)) at CB
    change Hid (∀ (v : Value) (w : World), Sl encS 1 w w.heap.size v [a, b] → Calls Tryd.prog 34 #[.agg #[.int .i64 st, .bool num, .bool ign, .bool up], v] w fun e w' => e = .returned (.int .i64 0) ∧ Below w.heap.size w w') at CK
    show Calls Tryd.prog 20 #[.string a, .string b, .agg #[.int .i64 st, .bool num, .bool ign, .bool up]] w _
    go_enter Tryd.func20, Tryd.ntmps20
    go_wp2_with fail
    have B0 := Box.start w st num ign up
    have b0 : Below w.heap.size w (w.alloc (.cells #[.int .i64 st, .bool num, .bool ign, .bool up] 23)) := (Below.refl w.heap.size w).alloc (Nat.le_refl _) _
    have z0 : w.heap.size < (w.alloc (.cells #[.int .i64 st, .bool num, .bool ign, .bool up] 23)).heap.size := by simp
    have hz0 : (w.alloc (.cells #[.int .i64 st, .bool num, .bool ign, .bool up] 23)).heap.size = w.heap.size + 1 := by simp
    obtain ⟨w0, hw0⟩ : ∃ w0, w0 = w.alloc (.cells #[.int .i64 st, .bool num, .bool ign, .bool up] 23) := ⟨_, rfl⟩
    rw [← hw0] at B0 b0 z0 hz0 ⊢
    clear hw0
    refine (CK.out _ _ ?_).mono ?_
    · have := Sl.fresh (enc := encS) (fun _ => rfl) w0 9 [a, b] (by simp [maxLen])
      rw [show (w0.alloc (Obj.cells #[Value.string a, Value.string b] 9)).heap.size = w0.heap.size + 1 from by simp]
      rw [hz0] at this ⊢
      exact this
    rintro e w1 ⟨rfl, b1⟩
    have b01 : Below w0.heap.size w0 (w0.alloc (Obj.cells #[Value.string a, Value.string b] 9)) := (Below.refl _ _).alloc (Nat.le_refl _) _
    have b1' : Below w0.heap.size w0 w1 := b01.trans (b1.mono b01.size)
    have B1 := B0.over b1'
    have bb1 : Below w.heap.size w w1 := b0.trans (b1'.mono b0.size)
    have z1 : w.heap.size < w1.heap.size := Nat.lt_of_lt_of_le z0 b1'.size
    clear b1 b01 b1' b0 B0
    go_wp2_with fail
    obtain ⟨c0, c1, c2, c3⟩ := B1
    have C0 : Hid (w1.drew.cell? ⟨w.heap.size, 0, none⟩ = some (.int .i64 st)) := Lib.hid c0
    have C1 : Hid (w1.drew.cell? ⟨w.heap.size, 1, none⟩ = some (.bool num)) := Lib.hid c1
    have C2 : Hid (w1.drew.cell? ⟨w.heap.size, 2, none⟩ = some (.bool ign)) := Lib.hid c2
    have C3 : Hid (w1.drew.cell? ⟨w.heap.size, 3, none⟩ = some (.bool up)) := Lib.hid c3
    go_upto_region 4 with fail
    go_cut [9, 10] from 14 to 55 (fun vx vy wx => Sl encE 3 wx wx.heap.size vx x ∧ Sl encE 3 wx wx.heap.size vy y ∧ Below w.heap.size w wx ∧ Box w st num ign up wx ∧ w.heap.size < wx.heap.size)
    case first =>
      refine wp_region_noPanic ?_
      go_region_with (go_at_call 36; first
        | (have hh := bx1; (with_reducible refine (CB.out _).mono ?_); clear hh; rintro e wx2 ⟨vy, rfl, hsy, bx2⟩)
        | ((with_reducible refine (CA.out _).mono ?_); rintro e wx1 ⟨vx, rfl, hsx, bx1⟩; have c0' := cell_over C0.out bx1; have c1' := cell_over C1.out bx1; have c2' := cell_over C2.out bx1; have c3' := cell_over C3.out bx1))
      all_goals (
        refine NoPanic.normal ?_
        have hsx2 : Sl encE 3 wx2 wx2.heap.size vx x := hsx.over bx2
        have bb2 : Below w.heap.size w wx2 := bb1.drew.trans ((bx1.mono bb1.size).trans (bx2.mono (Nat.le_trans bb1.size bx1.size)))
        have BX : Box w st num ign up wx2 := ⟨cell_over c0' bx2, cell_over c1' bx2, cell_over c2' bx2, cell_over c3' bx2⟩
        have zz : w.heap.size < wx2.heap.size := Nat.lt_of_lt_of_le z1 (Nat.le_trans bx1.size bx2.size)
        clear bx1 bx2 c0 c1 c2 c3 c0' c1' c2' c3' C0 C1 C2 C3 hsx
        go_wp2_with fail
        go_meet
        exact ⟨hsx2, hsy, bb2, BX, zz⟩)
    case rest =>
      obtain ⟨hsx, hsy, bb, BX, zz⟩ := hcut
      have HSX := Lib.hid hsx
      have HSY := Lib.hid hsy
      have HBX := Lib.hid BX
      clear hsx hsy BX
      go_wp2_with fail
      have bF : Below wc.heap.size wc (wc.alloc (.cells #[.func (.func 37) #[] #[], .func (.func 38) #[] #[], .func (.func 39) #[] #[]] 69)) := (Below.refl _ _).alloc (Nat.le_refl _) _
      have f0 : (wc.alloc (.cells #[.func (.func 37) #[] #[], .func (.func 38) #[] #[], .func (.func 39) #[] #[]] 69)).cell? ⟨wc.heap.size, 0, none⟩ = some (.func (.func 37) #[] #[]) := by go_simp
      have f1 : (wc.alloc (.cells #[.func (.func 37) #[] #[], .func (.func 38) #[] #[], .func (.func 39) #[] #[]] 69)).cell? ⟨wc.heap.size, 1, none⟩ = some (.func (.func 38) #[] #[]) := by go_simp
      have f2 : (wc.alloc (.cells #[.func (.func 37) #[] #[], .func (.func 38) #[] #[], .func (.func 39) #[] #[]] 69)).cell? ⟨wc.heap.size, 2, none⟩ = some (.func (.func 39) #[] #[]) := by go_simp
      obtain ⟨w3, hw3⟩ : ∃ w3, w3 = wc.alloc (.cells #[.func (.func 37) #[] #[], .func (.func 38) #[] #[], .func (.func 39) #[] #[]] 69) := ⟨_, rfl⟩
      rw [← hw3] at bF f0 f1 f2 ⊢
      clear hw3
      have F0 := Lib.hid f0
      have F1 := Lib.hid f1
      have F2 := Lib.hid f2
      clear f0 f1 f2
      go_loopw [30] (fun iv wr => ∃ i : Nat, i ≤ 3 ∧ iv = .int .i64 i ∧ Hid (R = cTi st sa sb x y i) ∧ Below w3.heap.size w3 wr) (fun iv _ => 3 - (intOf iv).toNat)
      case atStart => exact ⟨0, by omega, rfl, HR, Below.refl _ _⟩
      case round =>
        obtain ⟨i, hi, rfl, HK, hb⟩ := hrel
        clear HR
        have bcr : Below wc.heap.size wc wr := bF.trans (hb.mono bF.size)
        have bwr : Below w.heap.size w wr := bb.trans (bcr.mono bb.size)
        have hsx := HSX.out.over bcr
        have hsy := HSY.out.over bcr
        obtain ⟨c0, c1, c2, c3⟩ := HBX.out.over bcr
        have f0 := cell_over F0.out hb
        have f1 := cell_over F1.out hb
        have f2 := cell_over F2.out hb
        have hi' : i = 0 ∨ i = 1 ∨ i = 2 ∨ i = 3 := by omega
        rcases hi' with rfl | rfl | rfl | rfl
        · have CX := Lib.hid (weights_one _ x wr hsx (by omega))
          have CY := Lib.hid (fun (w : World) h => weights_one _ y w (hsy.over h) (by omega))
          obtain ⟨X, hX⟩ : ∃ X, X = wts El.p x := ⟨_, rfl⟩
          obtain ⟨Y, hY⟩ : ∃ Y, Y = wts El.p y := ⟨_, rfl⟩
          have HS : Hid (R = if ordL X Y ≠ 0 then ordL X Y else cTi st sa sb x y 1) := Lib.hid (by rw [HK.out, hX, hY]; exact if_neg (by omega))
          rw [← hX] at CX
          rw [← hY] at CY
          obtain ⟨z, hz⟩ : ∃ z, z = ordL X Y := ⟨_, rfl⟩
          have HZ := Lib.hid hz
          rw [← hz] at HS
          clear hX hY hz HK hsx hsy
          have dst : decide (st ≤ 0) = false := by simp; omega
          go_wp2_with fail
          refine CX.out.mono ?_
          rintro e w4 ⟨v4, rfl, hO4, hb4⟩
          go_wp2_with fail
          refine (CY.out _ hb4).mono ?_
          rintro e w5 ⟨v5, rfl, hO5, hb5⟩
          have CC := Lib.hid (slicesCompare_lib v4 v5 X Y w5 ((hO4.sl encI_length).over hb5) (hO5.sl encI_length))
          rw [← HZ.out] at CC
          have hb6 : Below w3.heap.size w3 w5 := hb.trans ((hb4.trans (hb5.mono hb4.size)).mono hb.size)
          have bw6 : Below w.heap.size w w5 := bwr.trans ((hb4.trans (hb5.mono hb4.size)).mono bwr.size)
          clear hO4 hO5 hb4 hb5 CX CY bcr bwr hb
          go_wp2_with fail
          refine CC.out.mono ?_
          rintro e w6 ⟨rfl, rfl⟩
          clear CC
          by_cases h0 : z = 0
          · have HS2 : Hid (R = cTi st sa sb x y 1) := Lib.hid (by rw [HS.out, if_neg (by omega)])
            clear HS HZ
            subst h0
            go_wp2_with fail
            go_roundw
            case rel => exact ⟨1, by omega, rfl, HS2, hb6⟩
            case measure => simp [intOf]
          · have HS2 : Hid (z = R) := Lib.hid (by rw [HS.out, if_pos h0])
            have d2 : (z != 0) = true := by simpa using h0
            clear HS HZ h0
            go_wp2_with fail
            go_ret2
            exact ⟨by rw [← HS2.out]; rfl, bw6⟩
        · by_cases hsi : st ≤ 1
          · have dst : decide (st ≤ 1) = true := by simpa using hsi
            have HS : Hid (0 = R) := Lib.hid (by rw [HK.out]; exact (if_pos hsi).symm)
            clear HK hsx hsy
            go_wp2_with fail
            go_ret2
            exact ⟨by rw [← HS.out]; rfl, bwr⟩
          have CX := Lib.hid (weights_two _ x wr hsx (by omega))
          have CY := Lib.hid (fun (w : World) h => weights_two _ y w (hsy.over h) (by omega))
          obtain ⟨X, hX⟩ : ∃ X, X = wts El.s x := ⟨_, rfl⟩
          obtain ⟨Y, hY⟩ : ∃ Y, Y = wts El.s y := ⟨_, rfl⟩
          have HS : Hid (R = if ordL X Y ≠ 0 then ordL X Y else cTi st sa sb x y 2) := Lib.hid (by rw [HK.out, hX, hY]; exact if_neg (by omega))
          rw [← hX] at CX
          rw [← hY] at CY
          obtain ⟨z, hz⟩ : ∃ z, z = ordL X Y := ⟨_, rfl⟩
          have HZ := Lib.hid hz
          rw [← hz] at HS
          clear hX hY hz HK hsx hsy
          have dst : decide (st ≤ 1) = false := by simp; omega
          go_wp2_with fail
          refine CX.out.mono ?_
          rintro e w4 ⟨v4, rfl, hO4, hb4⟩
          go_wp2_with fail
          refine (CY.out _ hb4).mono ?_
          rintro e w5 ⟨v5, rfl, hO5, hb5⟩
          have CC := Lib.hid (slicesCompare_lib v4 v5 X Y w5 ((hO4.sl encI_length).over hb5) (hO5.sl encI_length))
          rw [← HZ.out] at CC
          have hb6 : Below w3.heap.size w3 w5 := hb.trans ((hb4.trans (hb5.mono hb4.size)).mono hb.size)
          have bw6 : Below w.heap.size w w5 := bwr.trans ((hb4.trans (hb5.mono hb4.size)).mono bwr.size)
          clear hO4 hO5 hb4 hb5 CX CY bcr bwr hb
          go_wp2_with fail
          refine CC.out.mono ?_
          rintro e w6 ⟨rfl, rfl⟩
          clear CC
          by_cases h0 : z = 0
          · have HS2 : Hid (R = cTi st sa sb x y 2) := Lib.hid (by rw [HS.out, if_neg (by omega)])
            clear HS HZ
            subst h0
            go_wp2_with fail
            go_roundw
            case rel => exact ⟨2, by omega, rfl, HS2, hb6⟩
            case measure => simp [intOf]
          · have HS2 : Hid (z = R) := Lib.hid (by rw [HS.out, if_pos h0])
            have d2 : (z != 0) = true := by simpa using h0
            clear HS HZ h0
            go_wp2_with fail
            go_ret2
            exact ⟨by rw [← HS2.out]; rfl, bw6⟩
        · by_cases hsi : st ≤ 2
          · have dst : decide (st ≤ 2) = true := by simpa using hsi
            have HS : Hid (0 = R) := Lib.hid (by rw [HK.out]; exact (if_pos hsi).symm)
            clear HK hsx hsy
            go_wp2_with fail
            go_ret2
            exact ⟨by rw [← HS.out]; rfl, bwr⟩
          have CX := Lib.hid (weights_three _ x wr hsx (by omega))
          have CY := Lib.hid (fun (w : World) h => weights_three _ y w (hsy.over h) (by omega))
          obtain ⟨X, hX⟩ : ∃ X, X = wts El.t x := ⟨_, rfl⟩
          obtain ⟨Y, hY⟩ : ∃ Y, Y = wts El.t y := ⟨_, rfl⟩
          have HS : Hid (R = if ordL X Y ≠ 0 then ordL X Y else cTi st sa sb x y 3) := Lib.hid (by rw [HK.out, hX, hY]; exact if_neg (by omega))
          rw [← hX] at CX
          rw [← hY] at CY
          obtain ⟨z, hz⟩ : ∃ z, z = ordL X Y := ⟨_, rfl⟩
          have HZ := Lib.hid hz
          rw [← hz] at HS
          clear hX hY hz HK hsx hsy
          have dst : decide (st ≤ 2) = false := by simp; omega
          go_wp2_with fail
          refine CX.out.mono ?_
          rintro e w4 ⟨v4, rfl, hO4, hb4⟩
          go_wp2_with fail
          refine (CY.out _ hb4).mono ?_
          rintro e w5 ⟨v5, rfl, hO5, hb5⟩
          have CC := Lib.hid (slicesCompare_lib v4 v5 X Y w5 ((hO4.sl encI_length).over hb5) (hO5.sl encI_length))
          rw [← HZ.out] at CC
          have hb6 : Below w3.heap.size w3 w5 := hb.trans ((hb4.trans (hb5.mono hb4.size)).mono hb.size)
          have bw6 : Below w.heap.size w w5 := bwr.trans ((hb4.trans (hb5.mono hb4.size)).mono bwr.size)
          clear hO4 hO5 hb4 hb5 CX CY bcr bwr hb
          go_wp2_with fail
          refine CC.out.mono ?_
          rintro e w6 ⟨rfl, rfl⟩
          clear CC
          by_cases h0 : z = 0
          · have HS2 : Hid (R = cTi st sa sb x y 3) := Lib.hid (by rw [HS.out, if_neg (by omega)])
            clear HS HZ
            subst h0
            go_wp2_with fail
            go_roundw
            case rel => exact ⟨3, by omega, rfl, HS2, hb6⟩
            case measure => simp [intOf]
          · have HS2 : Hid (z = R) := Lib.hid (by rw [HS.out, if_pos h0])
            have d2 : (z != 0) = true := by simpa using h0
            clear HS HZ h0
            go_wp2_with fail
            go_ret2
            exact ⟨by rw [← HS2.out]; rfl, bw6⟩
        · clear hsx hsy f0 f1 f2
          by_cases h4 : st < 4
          · have d4 : decide (st < 4) = true := by simpa using h4
            have HS : Hid (0 = R) := Lib.hid (by rw [HK.out]; exact (if_pos h4).symm)
            clear HK
            go_wp2_with fail
            go_ret2
            exact ⟨by rw [← HS.out]; rfl, bwr⟩
          · have d4 : decide (st < 4) = false := by simpa using h4
            have HS : Hid (ordL sa sb = R) := Lib.hid (by rw [HK.out]; exact (if_neg h4).symm)
            rw [HS.out] at CS
            clear HK HS
            go_wp2_with fail
            refine (CS.out _).mono ?_
            rintro e w6 ⟨rfl, rfl⟩
            go_wp2_with fail
            go_ret2
            exact ⟨rfl, bwr⟩
  · have HR : Hid (cmpR o a b = 0) := Lib.hid (by unfold cmpR; rw [← hE, if_neg h0])
    have d0 : (E != 0) = true := by simpa using h0
    obtain ⟨R, hRR⟩ : ∃ R, R = cmpR o a b := ⟨_, rfl⟩
    rw [← hRR] at HR ⊢
    clear hE h0 hRR
    obtain ⟨st, num, ign, up⟩ := o
    change Hid (∀ (v : Value) (w : World), Sl encS 1 w w.heap.size v [a, b] → Calls Tryd.prog 34 #[.agg #[.int .i64 st, .bool num, .bool ign, .bool up], v] w fun e w' => e = .returned (.int .i64 E) ∧ Below w.heap.size w w') at CK
    show Calls Tryd.prog 20 #[.string a, .string b, .agg #[.int .i64 st, .bool num, .bool ign, .bool up]] w _
    go_enter Tryd.func20, Tryd.ntmps20
    go_wp2_with fail
    have b0 : Below w.heap.size w (w.alloc (.cells #[.int .i64 st, .bool num, .bool ign, .bool up] 23)) := (Below.refl w.heap.size w).alloc (Nat.le_refl _) _
    have hz0 : (w.alloc (.cells #[.int .i64 st, .bool num, .bool ign, .bool up] 23)).heap.size = w.heap.size + 1 := by simp
    obtain ⟨w0, hw0⟩ : ∃ w0, w0 = w.alloc (.cells #[.int .i64 st, .bool num, .bool ign, .bool up] 23) := ⟨_, rfl⟩
    rw [← hw0] at b0 hz0 ⊢
    clear hw0
    refine (CK.out _ _ ?_).mono ?_
    · have := Sl.fresh (enc := encS) (fun _ => rfl) w0 9 [a, b] (by simp [maxLen])
      rw [show (w0.alloc (Obj.cells #[Value.string a, Value.string b] 9)).heap.size = w0.heap.size + 1 from by simp]
      rw [hz0] at this ⊢
      exact this
    rintro e w1 ⟨rfl, b1⟩
    have b01 : Below w0.heap.size w0 (w0.alloc (Obj.cells #[Value.string a, Value.string b] 9)) := (Below.refl _ _).alloc (Nat.le_refl _) _
    have bb : Below w.heap.size w w1 := b0.trans ((b01.trans (b1.mono b01.size)).mono b0.size)
    clear b1 b01 b0
    go_wp2_with fail
    go_ret2
    exact ⟨by rw [HR.out]; rfl, bb⟩
end Go.Proofs.YtknnjnginmkblaaDoor
