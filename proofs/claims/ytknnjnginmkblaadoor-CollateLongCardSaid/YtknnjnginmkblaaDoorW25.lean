/- Walk: the law on long strings. -/
import Derived.Test.YtknnjnginmkblaaDoorW24
namespace Go.Proofs.YtknnjnginmkblaaDoor
open Go.RowKit

theorem elems_zeros (o : Opt) : ∀ (n : Nat), elems o (List.replicate n 0) = []
  | 0 => rfl
  | n + 1 => by
    rw [List.replicate_succ, elems_point (by rintro ⟨_, h⟩; exact absurd h (by decide)), elems_zeros o n]
    rfl
theorem zeros_ascii (n : Nat) : (pts (List.replicate n 0)).isSome = true ∧ ptL (List.replicate n 0) = List.replicate n 0 :=
  pts_ascii _ (fun b hb => by rw [(List.mem_replicate.1 hb).2]; decide)
theorem zeros_flat : ∀ (n : Nat), (List.replicate n 0).flatMap encB = List.replicate n (Value.int .u8 0)
  | 0 => rfl
  | n + 1 => by rw [List.replicate_succ, List.flatMap_cons, zeros_flat n, List.replicate_succ]; rfl
def O1 : Opt := ⟨1, false, false, false⟩
theorem err_a : chkS [⟨#[97]⟩] = 0 := by
  have hb1 : bytesN ⟨#[97]⟩ = [97] := rfl
  have p1 := pts_ascii [97] (by decide)
  simp only [chkS, hb1, p1.1]
  decide
theorem long_no {t : ByteArray} {n : Nat} (hn : n = 4096) (h : bytesN t = List.replicate n 0) :
    errC O1 [t] = 0 ∧ keyR O1 t = [0, 0, 0] ∧ errC O1 [⟨#[97]⟩, t] = 0 ∧ cmpR O1 ⟨#[97]⟩ t = 1 := by
  have hs : t.size = 4096 := by rw [← bytesN_length, h, List.length_replicate, hn]
  obtain ⟨z1, z2⟩ := zeros_ascii n
  have hb1 : bytesN ⟨#[97]⟩ = [97] := rfl
  have p1 := pts_ascii [97] (by decide)
  have hc : chkS [t] = 0 := by
    simp only [chkS]
    rw [if_neg (by omega), h, if_pos z1]
  have hel : elS O1 t = [] := by unfold elS; rw [h, z2, elems_zeros]
  have e1 : errC O1 [t] = 0 := by
    unfold errC
    rw [hc]; decide
  have e2 : errC O1 [⟨#[97]⟩, t] = 0 := by
    have : chkS [⟨#[97]⟩, t] = 0 := by
      have ha : (⟨#[97]⟩ : ByteArray).size = 1 := rfl
      show (if 4096 < (⟨#[97]⟩ : ByteArray).size then 10 else if (pts (bytesN ⟨#[97]⟩)).isSome = true then chkS [t] else 12) = 0
      rw [hb1, if_neg (by rw [ha]; omega), if_pos p1.1, hc]
    unfold errC
    rw [this]; decide
  refine ⟨e1, ?_, e2, ?_⟩
  · unfold keyR
    rw [if_pos e1, hel, h]
    show keyL 1 _ _ = _
    unfold keyL
    simp [lev3, wts]
  · unfold cmpR
    rw [if_pos e2, hel, h]
    unfold elS
    rw [hb1, p1.2]
    show cmpL 1 _ _ _ _ = 1
    unfold cmpL
    have : ordL (wts El.p (elems O1 [97])) (wts El.p []) = 1 := by decide
    rw [this]
    rw [if_pos (by decide)]
theorem long_yes {t : ByteArray} {n : Nat} {l : List Nat} (hn : n = 4096) (hl : l.length = n + 1) (h : bytesN t = l) :
    errC O1 [t] = 10 ∧ keyR O1 t = [] ∧ errC O1 [⟨#[97]⟩, t] = 10 ∧ cmpR O1 ⟨#[97]⟩ t = 0 := by
  have hs : t.size = 4097 := by rw [← bytesN_length, h, hl, hn]
  have hb1 : bytesN ⟨#[97]⟩ = [97] := rfl
  have p1 := pts_ascii [97] (by decide)
  have hc : chkS [t] = 10 := by
    simp only [chkS]
    rw [if_pos (by omega)]
  have e1 : errC O1 [t] = 10 := by
    unfold errC
    rw [hc]; decide
  have e2 : errC O1 [⟨#[97]⟩, t] = 10 := by
    have : chkS [⟨#[97]⟩, t] = 10 := by
      have ha : (⟨#[97]⟩ : ByteArray).size = 1 := rfl
      show (if 4096 < (⟨#[97]⟩ : ByteArray).size then 10 else if (pts (bytesN ⟨#[97]⟩)).isSome = true then chkS [t] else 12) = 10
      rw [hb1, if_neg (by rw [ha]; omega), if_pos p1.1, hc]
    unfold errC
    rw [this]; decide
  refine ⟨e1, ?_, e2, ?_⟩
  · unfold keyR
    rw [e1]; rfl
  · unfold cmpR
    rw [e2]; rfl

set_option maxRecDepth 100000 in
set_option maxHeartbeats 4000000 in
theorem long_any (more : Bool) (c : Nat) (hc : c < 256) (w : World) :
    Calls Tryd.prog 9 #[.bool more, .int .u8 (c : Int)] w fun e w' => e = .returned (.bool true) ∧ Below w.heap.size w w' := by
  obtain ⟨i0, hi, hz0, hz1, hz2⟩ := info_parts info5
  obtain ⟨n, hn⟩ : ∃ n : Nat, n = 4096 := ⟨_, rfl⟩
  have HN := Lib.hid hn
  have hn' : (4096 : Int) = (n : Int) := by omega
  have hMK := Lib.hid (fun (P : Prop) (h : (4096 : Int) = (n : Int) → P) => h hn')
  have hnm : n ≤ 1000000 := by omega
  clear hn hn'
  have CKN := Lib.hid known_lib
  cases more with
  | true =>
    have HLB : Hid (∀ b ∈ List.replicate n 0 ++ [c], b < 256) := Lib.hid (fun b hb => by
      rcases List.mem_append.1 hb with hb | hb
      · rw [(List.mem_replicate.1 hb).2]; decide
      · rw [List.mem_singleton.1 hb]; exact hc)
    have HL0 : Hid (0 < (List.replicate n 0 ++ [c]).length) := Lib.hid (by rw [List.length_append]; simp)
    go_enter Tryd.func9, Tryd.ntmps9
    go_wp2_with (first
      | (refine wpList_make_full w rfl _ _ 49 rfl w.heap.size 5 i0 _ 1 Tryd.underlying49 hi hz0 hz1 .i64 .i64 _ _ n rfl rfl (by have := HN.out; omega) (by have := HN.out; omega) (by rw [hz2]; omega) (by unfold maxLen; omega) (Nat.le_refl _) ?_; intro w1 hrow hg1; have hO1 : Own encB 1 5 w1 w.heap.size (.slice (some ⟨w.heap.size, 0, none⟩) n n) (List.replicate n 0) := (by unfold Own; rw [List.length_replicate, zeros_flat]; rw [show (Value.int IntKind.u8 0).cells = #[.int .u8 0] from rfl, Nat.mul_one, toList_madeCells_one] at hrow; exact hrow); have hb1 : Below w.heap.size w w1 := (Below.refl _ _).grown hg1 (Nat.le_refl _) (fun k e => by cases e); clear hrow hg1)
      | (at_builtin; refine wpList_byte rfl _ _ rfl w.heap.size _ (List.replicate n 0) rfl (Own.alloc hO1 _) w1.heap.size 1 c rfl (cells_new w1 [.int .u8 (c : Int)] 5 0 _ rfl) (by rw [List.length_replicate]; omega) (by have := hb1.size; simp; omega) ?_; intro v2 w2 hO2 hg2; have hb2 : Below w.heap.size w w2 := (hb1.alloc hb1.size (.cells #[.int .u8 (c : Int)] 5)).trans (Own.belowG (Own.alloc hO1 (.cells #[.int .u8 (c : Int)] 5)) (by have := hb1.size; simp; omega) hg2); clear hg2; obtain ⟨t, ht, htb⟩ := conv_bytes hO2 HLB.out HL0.out))
    obtain ⟨f1, f2, f3, f4⟩ := long_yes HN.out (by rw [List.length_append, List.length_replicate]; rfl) htb
    have CK : Hid (∀ w : World, Calls Tryd.prog 15 #[.string t, .agg #[.int .i64 1, .bool false, .bool false, .bool false]] w fun e w' => e = .returned (.tuple #[.string ⟨#[]⟩, .int .i64 10]) ∧ Below w.heap.size w w') := Lib.hid (fun w => by
      refine (Key_lib t O1 w).mono ?_
      rintro e w' ⟨k, rfl, hk, hb⟩
      rw [f2] at hk
      have : k = ⟨#[]⟩ := bytesN_inj (hk.trans rfl)
      subst this
      rw [f1]
      exact ⟨rfl, hb⟩)
    have CC : Hid (∀ w : World, Calls Tryd.prog 20 #[.string ⟨#[97]⟩, .string t, .agg #[.int .i64 1, .bool false, .bool false, .bool false]] w fun e w' => e = .returned (.tuple #[.int .i64 0, .int .i64 10]) ∧ Below w.heap.size w w') := Lib.hid (fun w => by
      have h := compare_lib ⟨#[97]⟩ t O1 w
      rw [f3, f4] at h
      exact h)
    have HTB := Lib.hid htb
    clear f1 f2 f3 f4 htb ht
    refine (CK.out _).mono ?_
    rintro e w3 ⟨rfl, hb3⟩
    have hO3 := hO2.over hb3
    have bb3 := hb2.trans (hb3.mono hb2.size)
    obtain ⟨t2, ht2, htb2⟩ := conv_bytes hO3 HLB.out HL0.out
    have : t2 = t := bytesN_inj (htb2.trans HTB.out.symm)
    subst this
    clear htb2 CK hb3 hO2 hO1 hb1 hb2
    go_wp2_with fail
    refine (CC.out _).mono ?_
    rintro e w4 ⟨rfl, hb4⟩
    have bb4 := bb3.trans (hb4.mono bb3.size)
    clear CC hb4 ht2 hO3 bb3
    go_wp2_with fail
    refine (CKN.out _).mono ?_
    rintro e w5 ⟨rfl, hb5⟩
    have bb5 := bb4.trans (hb5.mono bb4.size)
    clear hb5 bb4
    go_wp2_with fail
    go_ret
    exact ⟨ret_bool (by first | rfl | decide | simp), bb5⟩
  | false =>
    have HLB : Hid (∀ b ∈ List.replicate n 0, b < 256) := Lib.hid (fun b hb => by
      have hb := hb
      rw [(List.mem_replicate.1 hb).2]; decide
      )
    have HL0 : Hid (0 < (List.replicate n 0).length) := Lib.hid (by rw [List.length_replicate]; have := HN.out; omega)
    go_enter Tryd.func9, Tryd.ntmps9
    go_wp2_with (refine wpList_make_full w rfl _ _ 49 rfl w.heap.size 5 i0 _ 1 Tryd.underlying49 hi hz0 hz1 .i64 .i64 _ _ n rfl rfl (by have := HN.out; omega) (by have := HN.out; omega) (by rw [hz2]; omega) (by unfold maxLen; omega) (Nat.le_refl _) ?_; intro w1 hrow hg1; have hO1 : Own encB 1 5 w1 w.heap.size (.slice (some ⟨w.heap.size, 0, none⟩) n n) (List.replicate n 0) := (by unfold Own; rw [List.length_replicate, zeros_flat]; rw [show (Value.int IntKind.u8 0).cells = #[.int .u8 0] from rfl, Nat.mul_one, toList_madeCells_one] at hrow; exact hrow); have hb1 : Below w.heap.size w w1 := (Below.refl _ _).grown hg1 (Nat.le_refl _) (fun k e => by cases e); clear hrow hg1; have hO2 := hO1; have hb2 := hb1; obtain ⟨t, ht, htb⟩ := conv_bytes hO2 HLB.out HL0.out)
    obtain ⟨f1, f2, f3, f4⟩ := long_no HN.out htb
    have CK : Hid (∀ w : World, Calls Tryd.prog 15 #[.string t, .agg #[.int .i64 1, .bool false, .bool false, .bool false]] w fun e w' => e = .returned (.tuple #[.string ⟨#[0, 0, 0]⟩, .int .i64 0]) ∧ Below w.heap.size w w') := Lib.hid (fun w => by
      refine (Key_lib t O1 w).mono ?_
      rintro e w' ⟨k, rfl, hk, hb⟩
      rw [f2] at hk
      have : k = ⟨#[0, 0, 0]⟩ := bytesN_inj (hk.trans rfl)
      subst this
      rw [f1]
      exact ⟨rfl, hb⟩)
    have CC : Hid (∀ w : World, Calls Tryd.prog 20 #[.string ⟨#[97]⟩, .string t, .agg #[.int .i64 1, .bool false, .bool false, .bool false]] w fun e w' => e = .returned (.tuple #[.int .i64 1, .int .i64 0]) ∧ Below w.heap.size w w') := Lib.hid (fun w => by
      have h := compare_lib ⟨#[97]⟩ t O1 w
      rw [f3, f4] at h
      exact h)
    have HTB := Lib.hid htb
    clear f1 f2 f3 f4 htb ht
    refine (CK.out _).mono ?_
    rintro e w3 ⟨rfl, hb3⟩
    have hO3 := hO2.over hb3
    have bb3 := hb2.trans (hb3.mono hb2.size)
    obtain ⟨t2, ht2, htb2⟩ := conv_bytes hO3 HLB.out HL0.out
    have : t2 = t := bytesN_inj (htb2.trans HTB.out.symm)
    subst this
    clear htb2 CK hb3 hO2 hO1 hb1 hb2
    go_wp2_with fail
    refine (CC.out _).mono ?_
    rintro e w4 ⟨rfl, hb4⟩
    have bb4 := bb3.trans (hb4.mono bb3.size)
    clear CC hb4 ht2 hO3 bb3
    go_wp2_with fail
    refine (CKN.out _).mono ?_
    rintro e w5 ⟨rfl, hb5⟩
    have bb5 := bb4.trans (hb5.mono bb4.size)
    clear hb5 bb4
    go_wp2_with fail
    go_ret
    exact ⟨ret_bool (by first | rfl | decide | simp), bb5⟩
end Go.Proofs.YtknnjnginmkblaaDoor
