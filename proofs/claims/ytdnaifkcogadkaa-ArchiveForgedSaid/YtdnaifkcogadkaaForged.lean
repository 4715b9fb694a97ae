/- Walk: the law ArchiveForged. -/
import Derived.Test.YtdnaifkcogadkaaDecodes
import Derived.Test.YtdnaifkcogadkaaE5
namespace Go.Proofs.Ytdnaifkcogadkaa
open Go.RowKit

set_option maxRecDepth 100000 in
set_option maxHeartbeats 4000000 in
theorem forged_any (s u : ByteArray) (w : World) (hs : s.size ≤ 9223372036854775807) (hu : u.size ≤ 9223372036854775807) : Calls Try.prog 7 #[.string s, .string u] w fun e w' => e = .returned (.bool true) ∧ Below w.heap.size w w' := by
  have m0 : (0 : Int) ≤ min (s.size : Int) 300 := by omega
  have m1 : min (s.size : Int) 300 ≤ (s.size : Int) := by omega
  have m2 : (0 : Int) ≤ min (u.size : Int) 300 := by omega
  have m3 : min (u.size : Int) 300 ≤ (u.size : Int) := by omega
  obtain ⟨d, hd⟩ : ∃ t, t = s.extract 0 (min (s.size : Int) 300).toNat := ⟨_, rfl⟩
  obtain ⟨t, ht⟩ : ∃ t, t = u.extract 0 (min (u.size : Int) 300).toNat := ⟨_, rfl⟩
  have hds : d.size ≤ 300 := by rw [hd, ByteArray.size_extract]; omega
  have hts : t.size ≤ 300 := by rw [ht, ByteArray.size_extract]; omega
  have hd' := hd.symm
  have ht' := ht.symm
  clear hd ht
  obtain ⟨m, hm⟩ : ∃ m, m = d.size := ⟨_, rfl⟩
  obtain ⟨xm, hxm⟩ : ∃ x, x = ones ^^^ m := ⟨_, rfl⟩
  have hx : bits BinOp.xor IntKind.u32 IntKind.u32.max (m : Int) = (xm : Int) := by rw [hxm]; exact xor_len m (by omega)
  obtain ⟨P1, hP1⟩ : ∃ P, P = ofN (put32 m) := ⟨_, rfl⟩
  obtain ⟨P2, hP2⟩ : ∃ P, P = ofN (put32 xm) := ⟨_, rfl⟩
  have y1 : P1.size = 4 := by rw [hP1, ofN_size]; rfl
  have y2 : P2.size = 4 := by rw [hP2, ofN_size]; rfl
  have y0 : (⟨#[79, 66, 80, 49]⟩ : ByteArray).size = 4 := rfl
  obtain ⟨s1, hs1⟩ : ∃ x, x = (⟨#[79, 66, 80, 49]⟩ : ByteArray) ++ P1 := ⟨_, rfl⟩
  obtain ⟨s2, hs2⟩ : ∃ x, x = s1 ++ P2 := ⟨_, rfl⟩
  obtain ⟨s3, hs3⟩ : ∃ x, x = s2 ++ d := ⟨_, rfl⟩
  obtain ⟨cr, hcr⟩ : ∃ cr, cr = crcL (bytesN s3) := ⟨_, rfl⟩
  obtain ⟨P3, hP3⟩ : ∃ P, P = ofN (put32 cr) := ⟨_, rfl⟩
  obtain ⟨s4, hs4⟩ : ∃ x, x = s3 ++ P3 := ⟨_, rfl⟩
  obtain ⟨s5, hs5⟩ : ∃ x, x = s4 ++ t := ⟨_, rfl⟩
  have y3 : P3.size = 4 := by rw [hP3, ofN_size]; rfl
  have q1 : s1.size = 8 := by rw [hs1, ByteArray.size_append, y0, y1]
  have q2 : s2.size = 12 := by rw [hs2, ByteArray.size_append, q1, y2]
  have q3 : s3.size = 12 + m := by rw [hs3, ByteArray.size_append, q2, hm]
  have q4 : s4.size = 16 + m := by rw [hs4, ByteArray.size_append, q3, y3]; omega
  have q5 : s5.size ≤ 1000 := by rw [hs5, ByteArray.size_append, q4]; omega
  have hw32 : IntKind.u32.wrap (d.size : Int) = (m : Int) := by rw [hm]; exact wrap_u32 _ (by omega)
  have j1 : ∀ w : World, (Op.stringOp .add (⟨#[79, 66, 80, 49]⟩ : ByteArray) P1).run Try.prog w = .ok (.string s1) w := fun w => by rw [hs1]; exact run_string_add_sum w _ _ (by rw [y0, y1]; omega)
  have j2 : ∀ w : World, (Op.stringOp .add s1 P2).run Try.prog w = .ok (.string s2) w := fun w => by rw [hs2]; exact run_string_add_sum w _ _ (by rw [q1, y2]; omega)
  have j3 : ∀ w : World, (Op.stringOp .add s2 d).run Try.prog w = .ok (.string s3) w := fun w => by rw [hs3]; exact run_string_add_sum w _ _ (by rw [q2]; omega)
  have j4 : ∀ w : World, (Op.stringOp .add s3 P3).run Try.prog w = .ok (.string s4) w := fun w => by rw [hs4]; exact run_string_add_sum w _ _ (by rw [q3, y3]; omega)
  have j5 : ∀ w : World, (Op.stringOp .add s4 t).run Try.prog w = .ok (.string s5) w := fun w => by rw [hs5]; exact run_string_add_sum w _ _ (by rw [q4]; omega)
  have CS : Hid (∀ W, Calls Try.prog 20 #[.string s3] W fun e w' => e = .returned (.int .u32 cr) ∧ W = w') := Lib.hid (fun W => by rw [hcr]; exact sum_any s3 W (by omega))
  have C1 := Lib.hid (fun W => put_det m P1 hP1 W)
  have C2 := Lib.hid (fun W => put_det xm P2 hP2 W)
  have C3 := Lib.hid (fun W => put_det cr P3 hP3 W)
  clear hs1 hs2 hs3 hs4 hs5 hP1 hP2 hP3 hcr hxm hm q1 q2 q3 q4 y0 y1 y2 y3
  go_enter Try.func7, Try.ntmps7
  go_wp2_with fail
  go_quiet (fail)
  go_wp2_with fail
  refine (known_any _).mono ?_
  rintro e w1 ⟨rfl, hk1⟩
  have hb1 := (below_drewN (Below.refl w.heap.size w) _).trans hk1
  clear hk1
  go_wp2_with fail
  refine (C1.out _).mono ?_
  rintro e w3 ⟨rfl, hk3⟩
  have h3 := hb1.trans (hk3.mono hb1.size)
  go_wp2_with fail
  refine (C2.out _).mono ?_
  rintro e w4 ⟨rfl, hk4⟩
  have h4 := h3.trans (hk4.mono h3.size)
  go_wp2_with fail
  refine (CS.out _).mono ?_
  rintro e w5 ⟨rfl, rfl⟩
  go_wp2_with fail
  refine (C3.out _).mono ?_
  rintro e w6 ⟨rfl, hk6⟩
  have h6 := h4.trans (hk6.mono h4.size)
  clear hb1 hk3 h3 hk4 h4 hk6 CS C1 C2 C3
  go_wp2_with fail
  refine (decode_any s5 _ (by omega)).mono ?_
  rintro e w7 ⟨v3, n3, rfl, hp3, hk7⟩
  have HP3 := Lib.hid hp3
  clear hp3
  have hb7 := h6.trans (hk7.mono h6.size)
  go_wp2_with fail
  refine (decode_ref s5 _ (by omega)).mono ?_
  rintro e w8 ⟨v4, n4, rfl, hp4, hk8⟩
  have hb8 := hb7.trans (hk8.mono hb7.size)
  have P3 := Sl.over HP3.out.sl hk8
  have P4 := hp4.sl
  have hz := HP3.out.1.trans hp4.1.symm
  clear HP3 hp4 h6 hk7 hk8 hb7
  subst hz
  obtain ⟨y1, y2⟩ := int_eq n3
  go_wp2_with fail
  refine (same_any v3 v4 _ w8 P3 P4).mono ?_
  rintro e w9 ⟨rfl, n9, rfl⟩
  clear P3 P4
  go_wp2_with fail
  go_ret
  exact ⟨rfl, below_drewN hb8 _⟩
end Go.Proofs.Ytdnaifkcogadkaa
