/- Walk: the law on accented letters. -/
import Derived.Test.YtknnjnginmkblaaDoorM1
import Derived.Test.YtknnjnginmkblaaDoorOrders
namespace Go.Proofs.YtknnjnginmkblaaDoor
open Go.RowKit

theorem strs_cell (w : World) (l : List ByteArray) (q : Nat) (x : ByteArray) (h : l[q]? = some x) : (w.alloc (.cells (l.map Value.string).toArray 9)).cell? ⟨w.heap.size, q, none⟩ = some (.string x) := by
  have := cells_new w (l.map Value.string) 9 q (.string x) (by rw [List.getElem?_map, h]; rfl)
  exact this

set_option maxRecDepth 100000 in
set_option maxHeartbeats 8000000 in
theorem marks_any (A B : ByteArray) (c : Int) (hc : 0 ≤ c ∧ c ≤ 255) (w : World) :
    Calls Tryd.prog 8 #[.string A, .string B, .int .u8 c] w fun e w' => e = .returned (.bool true) ∧ Below w.heap.size w w' := by
  obtain ⟨a, ha⟩ : ∃ a, a = cutS A := ⟨_, rfl⟩
  obtain ⟨b, hb⟩ : ∃ b, b = cutS B := ⟨_, rfl⟩
  have HA : Hid (∀ w : World, Calls Tryd.prog 14 #[.string A] w fun e w' => e = .returned (.string a) ∧ w = w') := Lib.hid (fun w => by rw [ha]; exact cut_lib A w)
  have HB : Hid (∀ w : World, Calls Tryd.prog 14 #[.string B] w fun e w' => e = .returned (.string b) ∧ w = w') := Lib.hid (fun w => by rw [hb]; exact cut_lib B w)
  have ha2 : a.size ≤ 200 := by rw [ha]; exact cutS_size A
  have hb2 : b.size ≤ 200 := by rw [hb]; exact cutS_size B
  have hsz : ∀ s ∈ [a, b], s.size ≤ 4096 := by
    intro s hs
    simp only [List.mem_cons, List.mem_nil_iff, or_false] at hs
    rcases hs with rfl | rfl <;> omega
  have CF : Hid (∀ (v : Value) (w : World), Sl encS 1 w w.heap.size v [a, b] → Calls Tryd.prog 17 #[.agg #[.int .i64 1, .bool false, .bool false, .bool false], v] w fun e w' => e = .returned (.int .i64 (errC ⟨1, false, false, false⟩ [a, b])) ∧ Below w.heap.size w w') := Lib.hid (fun v w h => fault_lib ⟨1, false, false, false⟩ v [a, b] w h hsz)
  have CKN := Lib.hid known_lib
  obtain ⟨q, hq⟩ : ∃ q : Nat, q = c.toNat % 8 := ⟨_, rfl⟩
  have hq8 : q < 8 := by omega
  have m1 : c % 8 = (q : Int) := by omega
  have m2 : c.tmod 8 = (q : Int) := by rw [Int.tmod_eq_emod_of_nonneg (by omega)]; exact m1
  have m3 : IntKind.u8.wrap (c % 8) = (q : Int) := by rw [m1, IntWalk.u8_in _ (by omega)]
  have m4 : IntKind.u8.wrap (c.tmod 8) = (q : Int) := by rw [m2, IntWalk.u8_in _ (by omega)]
  obtain ⟨one, two, h1, h2, M⟩ := mk_all q hq8
  have CM : Hid (errC ⟨1, false, false, false⟩ [a, b] = 0 → MkLaws a b one two (two.extract 0 1)) := Lib.hid (fun h => mk_laws M ha2 hb2 ((errC_ok h).2 a (by simp)).2 ((errC_ok h).2 b (by simp)).2)
  have z1 := M.z1
  have z2 := M.z2
  have z4 := M.z4
  have HZ3 := Lib.hid M.z3
  have k1 : a.size + one.size ≤ 9223372036854775807 := by omega
  have k2 : (a ++ one).size + b.size ≤ 9223372036854775807 := by rw [cat_size]; omega
  have k3 : a.size + two.size ≤ 9223372036854775807 := by omega
  have k4 : (a ++ two).size + b.size ≤ 9223372036854775807 := by rw [cat_size]; omega
  have HQ1 := Lib.hid h1
  have HQ2 := Lib.hid h2
  have x1 : (1 : Int) ≤ (two.size : Int) := by omega
  obtain ⟨E, hE⟩ : ∃ E, E = errC ⟨1, false, false, false⟩ [a, b] := ⟨_, rfl⟩
  rw [← hE] at CF CM
  have HA2 := Lib.hid ha2
  have HB2 := Lib.hid hb2
  clear ha hb hsz hE hq M h1 h2 ha2 hb2 hc
  go_enter Tryd.func8, Tryd.ntmps8
  go_wp2_with fail
  refine (HA.out _).mono ?_
  rintro e w1 ⟨rfl, rfl⟩
  go_wp2_with fail
  refine (HB.out _).mono ?_
  rintro e w1 ⟨rfl, rfl⟩
  have r1 : (w.alloc (.cells #[.string ⟨#[195, 128]⟩, .string ⟨#[195, 169]⟩, .string ⟨#[195, 143]⟩, .string ⟨#[195, 177]⟩, .string ⟨#[195, 182]⟩, .string ⟨#[195, 191]⟩, .string ⟨#[195, 135]⟩, .string ⟨#[195, 152]⟩] 9)).cell? ⟨w.heap.size, q, none⟩ = some (.string one) := strs_cell w onesL q one HQ1.out
  go_upto_region 3 with fail
  have b1 : Below w.heap.size w (w.alloc (.cells #[.string ⟨#[195, 128]⟩, .string ⟨#[195, 169]⟩, .string ⟨#[195, 143]⟩, .string ⟨#[195, 177]⟩, .string ⟨#[195, 182]⟩, .string ⟨#[195, 191]⟩, .string ⟨#[195, 135]⟩, .string ⟨#[195, 152]⟩] 9)) := (Below.refl _ _).alloc (Nat.le_refl _) _
  obtain ⟨w1, hw1⟩ : ∃ w1, w1 = w.alloc (.cells #[.string ⟨#[195, 128]⟩, .string ⟨#[195, 169]⟩, .string ⟨#[195, 143]⟩, .string ⟨#[195, 177]⟩, .string ⟨#[195, 182]⟩, .string ⟨#[195, 191]⟩, .string ⟨#[195, 135]⟩, .string ⟨#[195, 152]⟩] 9) := ⟨_, rfl⟩
  rw [← hw1] at b1 ⊢
  clear hw1 r1 HA HB HQ1
  have r2 : (w1.alloc (.cells #[.string ⟨#[65, 204, 128]⟩, .string ⟨#[101, 204, 129]⟩, .string ⟨#[73, 204, 136]⟩, .string ⟨#[110, 204, 131]⟩, .string ⟨#[111, 204, 136]⟩, .string ⟨#[121, 204, 136]⟩, .string ⟨#[67, 204, 167]⟩, .string ⟨#[79, 204, 184]⟩] 9)).cell? ⟨w1.heap.size, q, none⟩ = some (.string two) := strs_cell w1 twosL q two HQ2.out
  go_upto_region 5 with fail
  have b2 : Below w.heap.size w (w1.alloc (.cells #[.string ⟨#[65, 204, 128]⟩, .string ⟨#[101, 204, 129]⟩, .string ⟨#[73, 204, 136]⟩, .string ⟨#[110, 204, 131]⟩, .string ⟨#[111, 204, 136]⟩, .string ⟨#[121, 204, 136]⟩, .string ⟨#[67, 204, 167]⟩, .string ⟨#[79, 204, 184]⟩] 9)) := b1.alloc b1.size _
  obtain ⟨w2, hw2⟩ : ∃ w2, w2 = w1.alloc (.cells #[.string ⟨#[65, 204, 128]⟩, .string ⟨#[101, 204, 129]⟩, .string ⟨#[73, 204, 136]⟩, .string ⟨#[110, 204, 131]⟩, .string ⟨#[111, 204, 136]⟩, .string ⟨#[121, 204, 136]⟩, .string ⟨#[67, 204, 167]⟩, .string ⟨#[79, 204, 184]⟩] 9) := ⟨_, rfl⟩
  rw [← hw2] at b2 ⊢
  obtain ⟨bare, hbare⟩ : ∃ x, x = two.extract 0 1 := ⟨_, rfl⟩
  rw [← hbare] at HZ3 CM ⊢
  have hz3 := HZ3.out
  have k5 : a.size + bare.size ≤ 9223372036854775807 := by have := HA2.out; omega
  have k6 : (a ++ bare).size + b.size ≤ 9223372036854775807 := by have := HA2.out; have := HB2.out; rw [cat_size]; omega
  clear hw2 r2 HQ2 hbare HA2 HB2 HZ3 m1 m2 m3 m4 x1 b1 hq8 z1 z2 z4 hz3
  go_wp2_with fail
  refine (CKN.out _).mono ?_
  rintro e w3 ⟨rfl, hb3⟩
  have b3 := b2.trans (hb3.mono b2.size)
  clear hb3 b2
  go_wp2_with fail
  have hfs := Sl.fresh (enc := encS) (fun _ => rfl) w3 9 [a, b] (by simp [maxLen])
  refine (CF.out _ _ ?_).mono ?_
  · rw [show (w3.alloc (Obj.cells #[Value.string a, Value.string b] 9)).heap.size = w3.heap.size + 1 from by simp]
    exact hfs
  rintro e w4 ⟨rfl, hb4⟩
  have b34 : Below w3.heap.size w3 (w3.alloc (Obj.cells #[Value.string a, Value.string b] 9)) := (Below.refl _ _).alloc (Nat.le_refl _) _
  have b4' := b34.trans (hb4.mono b34.size)
  have b4 := b3.trans (b4'.mono b3.size)
  clear b34 hb4 b4' b3 CF hfs
  by_cases h0 : E = 0
  · have HM := Lib.hid (CM.out h0)
    subst h0
    clear CM CKN
    have CC : Hid (∀ (k : Nat) (w : World), 1 ≤ k → k ≤ 3 → Calls Tryd.prog 20 #[.string (a ++ one ++ b), .string (a ++ two ++ b), .agg #[.int .i64 (k : Int), .bool false, .bool false, .bool false]] w fun e w' => e = .returned (.tuple #[.int .i64 0, .int .i64 0]) ∧ Below w.heap.size w w') := Lib.hid (fun k w k1 k3 => by
      have := compare_lib (a ++ one ++ b) (a ++ two ++ b) ⟨(k : Int), false, false, false⟩ w
      rw [(HM.out.same k k1 k3).1, (HM.out.same k k1 k3).2] at this
      exact this)
    have C2 : Hid (∀ (w : World), Calls Tryd.prog 20 #[.string (a ++ one), .string (a ++ bare), .agg #[.int .i64 2, .bool false, .bool false, .bool false]] w fun e w' => e = .returned (.tuple #[.int .i64 1, .int .i64 0]) ∧ Below w.heap.size w w') := Lib.hid (fun w => by
      have := compare_lib (a ++ one) (a ++ bare) ⟨2, false, false, false⟩ w
      rw [HM.out.more.1, HM.out.more.2] at this
      exact this)
    have C1 : Hid (∀ (w : World), Calls Tryd.prog 20 #[.string (a ++ one ++ b), .string (a ++ bare ++ b), .agg #[.int .i64 1, .bool false, .bool false, .bool false]] w fun e w' => e = .returned (.tuple #[.int .i64 0, .int .i64 0]) ∧ Below w.heap.size w w') := Lib.hid (fun w => by
      have := compare_lib (a ++ one ++ b) (a ++ bare ++ b) ⟨1, false, false, false⟩ w
      rw [HM.out.less.1, HM.out.less.2] at this
      exact this)
    clear HM
    go_wp2_with fail
    go_loopw [10] (fun kv wr => ∃ k : Nat, 1 ≤ k ∧ k ≤ 4 ∧ kv = .int .i64 (k : Int) ∧ Below w.heap.size w wr) (fun kv _ => 4 - (intOf kv).toNat)
    case atStart => exact ⟨1, by omega, by omega, rfl, b4⟩
    case round =>
      obtain ⟨k, hk1, hk4, rfl, hb⟩ := hrel
      clear b4
      by_cases hlt : k ≤ 3
      · have hlt' : (k : Int) ≤ 3 := by omega
        have ek : IntKind.i64.wrap ((k : Int) + 1) = (k : Int) + 1 := IntWalk.i64_in _ (by omega)
        have KK := Lib.hid (CC.out k wr hk1 hlt)
        clear CC C1 C2
        go_wp2_with fail
        refine KK.out.mono ?_
        rintro e w5 ⟨rfl, hb5⟩
        have b5 := hb.trans (hb5.mono hb.size)
        clear hb5 hb KK
        go_wp2_with fail
        go_roundw
        case rel => exact ⟨k + 1, by omega, by omega, by go_num, b5⟩
        case measure => simp [intOf]; omega
      · have hlt' : ¬ (k : Int) ≤ 3 := by omega
        clear CC
        go_wp2_with fail
        refine (C2.out _).mono ?_
        rintro e w5 ⟨rfl, hb5⟩
        have b5 := hb.trans (hb5.mono hb.size)
        clear hb5 hb C2
        go_wp2_with fail
        refine (C1.out _).mono ?_
        rintro e w6 ⟨rfl, hb6⟩
        have b6 := b5.trans (hb6.mono b5.size)
        clear hb6 b5 C1
        go_wp2_with fail
        go_ret
        exact ⟨rfl, b6⟩
  · have d0 : (E != 0) = true := by simpa using h0
    clear CM h0
    go_wp2_with fail
    refine (CKN.out _).mono ?_
    rintro e w5 ⟨rfl, hb5⟩
    have b5 := b4.trans (hb5.mono b4.size)
    clear hb5 b4
    go_wp2_with fail
    go_ret
    exact ⟨rfl, b5⟩
end Go.Proofs.YtknnjnginmkblaaDoor
