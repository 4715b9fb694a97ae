/- Walk: the law on numbers. -/
import Derived.Test.YtmhhcfceikcfbaaGreatK3
import Derived.BigQuiet
namespace Go.Proofs.YtmhhcfceikcfbaaGreat
open Go.RowKit

theorem bytesN_app (a b : ByteArray) : bytesN (a ++ b) = bytesN a ++ bytesN b := by
  simp [bytesN]
theorem addS (a b : ByteArray) (h : a.size + b.size ≤ 9223372036854775807) (w : World) : (Op.stringOp .add a b).run Tryz.prog w = .ok (.string (a ++ b)) w :=
  run_string_add_sum w a b h
theorem readN_back (b1 b2 : ByteArray) (n : Int) (hn : I64 n) : readN ((b1 ++ mkB (encN n)) ++ b2) (b1.size : Int) = (n, ((b1.size + (mkB (encN n)).size : Nat) : Int), 0) := by
  have hz : ((b1 ++ mkB (encN n)) ++ b2).size = b1.size + (mkB (encN n)).size + b2.size := by rw [ByteArray.size_append, ByteArray.size_append]
  unfold readN
  rw [if_neg (by rw [hz]; omega)]
  have hd : (bytesN ((b1 ++ mkB (encN n)) ++ b2)).drop ((b1.size : Int)).toNat = encN n ++ bytesN b2 := by
    rw [bytesN_app, bytesN_app, bytesN_mkB (encN_lt n), List.append_assoc, Int.toNat_natCast, ← bytesN_length, List.drop_left]
  rw [hd, fitN.back n hn]
  simp only
  rw [mkB_size, Int.toNat_natCast]

set_option maxRecDepth 100000 in
set_option maxHeartbeats 4000000 in
theorem numbers_any (n : Int) (s1 s2 : ByteArray) (w : World) (hn : I64 n) : Calls Tryz.prog 3 #[.int .i64 n, .string s1, .string s2] w (TrueC w) := by
  obtain ⟨b1, h1⟩ : ∃ t, t = s1.extract 0 (min (s1.size : Int) 100).toNat := ⟨_, rfl⟩
  obtain ⟨b2, h2⟩ : ∃ t, t = s2.extract 0 (min (s2.size : Int) 100).toNat := ⟨_, rfl⟩
  have z1 : b1.size ≤ 100 := by rw [h1, ByteArray.size_extract]; omega
  have z2 : b2.size ≤ 100 := by rw [h2, ByteArray.size_extract]; omega
  have m0 : (0 : Int) ≤ min (s1.size : Int) 100 := by omega
  have m1 : min (s1.size : Int) 100 ≤ (s1.size : Int) := by omega
  have m2 : (0 : Int) ≤ min (s2.size : Int) 100 := by omega
  have m3 : min (s2.size : Int) 100 ≤ (s2.size : Int) := by omega
  obtain ⟨N, hN⟩ : ∃ N, N = mkB (encN n) := ⟨_, rfl⟩
  have zN : N.size ≤ 10 := by rw [hN, mkB_size]; exact encN_len hn
  have HB := Lib.hid (readN_back b1 b2 n hn)
  rw [← hN] at HB
  have C1 : Hid (∀ w, Calls Tryz.prog 13 #[.int .i64 n] w fun e w' => e = .returned (.string N) ∧ Below w.heap.size w w') := Lib.hid (fun w => by rw [hN]; exact Number13 n hn w)
  have C2 : Hid (∀ w, Calls Tryz.prog 16 #[.int .i64 n] w fun e w' => e = .returned (.string N) ∧ Below w.heap.size w w') := Lib.hid (fun w => by rw [hN]; exact num_lib n hn w)
  obtain ⟨t, ht⟩ : ∃ t, t = (b1 ++ N) ++ b2 := ⟨_, rfl⟩
  have k1 := addS b1 N (by omega)
  have k2 := addS (b1 ++ N) b2 (by rw [ByteArray.size_append]; omega)
  rw [← ht] at k2 HB
  have zt : t.size ≤ 1099511627776 := by rw [ht, ByteArray.size_append, ByteArray.size_append]; omega
  have C3 : Hid (∀ w, Calls Tryz.prog 14 #[.string t, .int .i64 (b1.size : Int)] w fun e w' => e = .returned (.tuple #[.int .i64 n, .int .i64 ((b1.size + N.size : Nat) : Int), .int .i64 0]) ∧ Below w.heap.size w w') := Lib.hid (fun w => by
    have h := Read14 t (b1.size : Int) w zt
    rw [HB.out] at h
    exact h)
  have f1 : IntKind.i64.wrap ((b1.size : Int) + (N.size : Int)) = ((b1.size + N.size : Nat) : Int) := by rw [IntKind.wrap_i64] <;> omega
  obtain ⟨q, hq⟩ : ∃ q, q = b1.size + N.size := ⟨_, rfl⟩
  rw [← hq] at C3 f1
  obtain ⟨q1, hq1⟩ : ∃ q, q = (min (s1.size : Int) 100).toNat := ⟨_, rfl⟩
  obtain ⟨q2, hq2⟩ : ∃ q, q = (min (s2.size : Int) 100).toNat := ⟨_, rfl⟩
  rw [← hq1] at h1
  rw [← hq2] at h2
  have g1 : (if (100 : Int) < (s1.size : Int) then (100 : Int) else (s1.size : Int)) = (q1 : Int) := by split <;> omega
  have g2 : (if (100 : Int) < (s2.size : Int) then (100 : Int) else (s2.size : Int)) = (q2 : Int) := by split <;> omega
  have g3 : (q1 : Int) ≤ (s1.size : Int) := by omega
  have g4 : (q2 : Int) ≤ (s2.size : Int) := by omega
  have x1 := h1.symm
  have x2 := h2.symm
  clear hq1 hq2 m0 m1 m2 m3
  clear h1 h2 hN HB ht hq
  go_enter Tryz.func3, Tryz.ntmps3
  go_wp2_with fail
  go_quiet (fail)
  go_wp2_with fail
  refine (C1.out _).mono ?_
  rintro e w1 ⟨rfl, hb1⟩
  have HB1 := Lib.hid (((Below.refl w.heap.size w) |> (below_drewN · nq)).trans (hb1.mono (Nat.le_refl _)))
  clear hb1 C1
  go_wp2_with fail
  refine (C3.out _).mono ?_
  rintro e w2 ⟨rfl, hb2⟩
  have HB2 := Lib.hid (HB1.out.trans (hb2.mono HB1.out.size))
  clear hb2 C3 HB1
  go_wp2_with fail
  refine (known15 _).mono ?_
  rintro e w3 ⟨rfl, hb3⟩
  have HB3 := Lib.hid (HB2.out.trans (hb3.mono HB2.out.size))
  clear hb3 HB2
  go_wp2_with fail
  refine (C2.out _).mono ?_
  rintro e w4 ⟨rfl, hb4⟩
  have HB4 := Lib.hid (HB3.out.trans (hb4.mono HB3.out.size))
  clear hb4 HB3
  go_wp2_with fail
  go_ret
  exact ⟨rfl, HB4.out⟩
end Go.Proofs.YtmhhcfceikcfbaaGreat
