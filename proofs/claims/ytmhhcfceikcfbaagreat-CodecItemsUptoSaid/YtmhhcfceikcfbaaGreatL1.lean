/- Walks: the law's bytes of numbers, texts, Booleans. -/
import Derived.Test.YtmhhcfceikcfbaaGreatW1
import Derived.Laws.IdiomStrings
namespace Go.Proofs.YtmhhcfceikcfbaaGreat
open Go.RowKit

/-- What a writer of strings answers. -/
def StrE (w : World) (L : List Nat) (e : Ending) (w' : World) : Prop := e = .returned (.string (mkB L)) ∧ Below w.heap.size w w'
theorem mkB_app (a b : List Nat) : mkB a ++ mkB b = mkB (a ++ b) := by
  unfold mkB
  rw [List.map_append]
  apply ByteArray.ext
  simp
theorem mkB_size (a : List Nat) : (mkB a).size = a.length := by
  show (mkB a).data.size = _
  simp [mkB]
theorem addL (a b : List Nat) (h : a.length + b.length ≤ 9223372036854775807) (w : World) : (Op.stringOp .add (mkB a) (mkB b)).run Tryz.prog w = .ok (.string (mkB (a ++ b))) w := by
  rw [← mkB_app]
  exact run_string_add_sum w _ _ (by rw [mkB_size, mkB_size]; omega)
theorem conv_one (w : World) (y : Nat) (hy : y < 256) : (convert 93 9 (.slice (some ⟨w.heap.size, 0, none⟩) 1 1)).run Tryz.prog (w.alloc (.cells #[.int .u8 (y : Int)] 5)) = .ok (.string (mkB [y])) (w.alloc (.cells #[.int .u8 (y : Int)] 5)) := by
  have := run_convert_bytes_back (P := Tryz.prog) (w.alloc (.cells #[.int .u8 (y : Int)] 5)) 93 9 5 ⟨w.heap.size, 0, none⟩ 1 [UInt8.ofNat y] Tryz.underlying93 Tryz.underlying5 Tryz.underlying9 (fun j hj => by
    have hj0 : j = 0 := by simpa using hj
    subst hj0
    rw [addr_add, Nat.zero_add]
    have hc := cells_new w [.int .u8 (y : Int)] 5 0 _ rfl
    rw [hc]
    simp [UInt8.toNat_ofNat, Nat.mod_eq_of_lt hy])
  exact this

set_option maxRecDepth 100000 in
set_option maxHeartbeats 4000000 in
theorem num_lib (n : Int) (hn : I64 n) (w : World) : Calls Tryz.prog 16 #[.int .i64 n] w (StrE w (encN n)) := by
  obtain ⟨M, hM⟩ : ∃ M, M = encN n := ⟨_, rfl⟩
  have hlen : M.length ≤ 10 := by rw [hM]; exact encN_len hn
  have hz := zz_lt hn
  have HM : Hid ([] ++ vb (zz n) = M) := Lib.hid (by rw [hM]; rfl)
  rw [← hM]
  have e0 : ∃ u0 : Nat, u0 = zz n ∧ (n < 0 → bits .xor .u64 IntKind.u64.max (IntKind.u64.wrap (IntKind.u64.wrap n * 2)) = (u0 : Int)) ∧ (¬ n < 0 → IntKind.u64.wrap (IntKind.u64.wrap n * 2) = (u0 : Int)) := by
    unfold I64 at hn
    refine ⟨_, rfl, fun h => ?_, fun h => ?_⟩
    · rw [Lib.zigzag_neg hn.1 h]
      unfold Lib.zigzag zz
      rw [if_neg (by omega), if_pos h]
    · rw [IntKind.wrap_u64, IntKind.wrap_u64]
      unfold zz
      rw [if_neg h]
      omega
  obtain ⟨u0, hu0, e1, e2⟩ := e0
  rw [← hu0] at hz HM
  clear hM hu0
  by_cases hneg : n < 0
  · have e3 := e1 hneg
    have d0 : decide (n < 0) = true := by simpa using hneg
    clear e1 e2
    go_enter Tryz.func16, Tryz.ntmps16
    go_wp2_with fail
    go_loopw [3, 4] (fun uv sv wr => ∃ (u : Nat) (L : List Nat), uv = .int .u64 (u : Int) ∧ sv = .string (mkB L) ∧ u < 18446744073709551616 ∧ L.length ≤ 10 ∧ Hid (L ++ vb u = M) ∧ Below w.heap.size w wr) (fun uv _ _ => (intOf uv).toNat)
    case atStart => exact ⟨u0, [], rfl, rfl, hz, by simp, HM, Below.refl _ _⟩
    case round =>
      obtain ⟨u, L, rfl, rfl, hu, hL, HL, hb⟩ := hrel
      clear HM hz e3
      by_cases h128 : u < 128
      · have d1 : decide ((128 : Int) ≤ (u : Int)) = false := by simp; omega
        have d2 : ¬ (128 : Int) ≤ (u : Int) := by omega
        have f1 : IntKind.u8.wrap (u : Int) = (u : Int) := by rw [IntKind.wrap_u8]; omega
        have kc := conv_one wr u (by omega)
        have ka := addL L [u] (by simp; omega)
        have HE : Hid (L ++ [u] = M) := Lib.hid (by rw [← vb_small h128]; exact HL.out)
        go_wp2_with fail
        go_ret
        exact ⟨by rw [← HE.out]; rfl, hb.alloc hb.size _⟩
      · have d1 : decide ((128 : Int) ≤ (u : Int)) = true := by simp; omega
        have d2 : (128 : Int) ≤ (u : Int) := by omega
        obtain ⟨q, hq⟩ : ∃ q, q = u % 128 := ⟨_, rfl⟩
        obtain ⟨y, hy⟩ : ∃ y, y = q + 128 := ⟨_, rfl⟩
        obtain ⟨u2, hu2⟩ : ∃ u2, u2 = u / 128 := ⟨_, rfl⟩
        have f1 : (u : Int) % 128 = (q : Int) := by omega
        have f2 : (u : Int).tmod 128 = (q : Int) := by rw [Int.tmod_eq_emod_of_nonneg (by omega)]; exact f1
        have f3 : IntKind.u8.wrap (q : Int) = (q : Int) := by rw [IntKind.wrap_u8]; omega
        have f4 : IntKind.u8.wrap ((q : Int) + 128) = (y : Int) := by rw [IntKind.wrap_u8]; omega
        have f5 : (u : Int) / 128 = (u2 : Int) := by omega
        have f6 : (u : Int).tdiv 128 = (u2 : Int) := by rw [Int.tdiv_eq_ediv_of_nonneg (by omega)]; exact f5
        have kc := conv_one wr y (by omega)
        have ka := addL L [y] (by simp; omega)
        have HE : Hid ((L ++ [y]) ++ vb u2 = M) := Lib.hid (by rw [← HL.out, vb_big h128, hy, hq, hu2]; simp)
        have hl2 : (L ++ [y]).length ≤ 10 := by
          have h1 := congrArg List.length HE.out
          rw [List.length_append] at h1
          omega
        have hu3 : u2 < u := by omega
        clear hq hy hu2 HL
        go_wp2_with fail
        go_roundw
        case rel => exact ⟨u2, L ++ [y], rfl, rfl, by omega, hl2, HE, hb.alloc hb.size _⟩
        case measure => simp [intOf]; omega
  · have e3 := e2 hneg
    have d0 : decide (n < 0) = false := by simpa using hneg
    clear e1 e2
    go_enter Tryz.func16, Tryz.ntmps16
    go_wp2_with fail
    go_loopw [3, 4] (fun uv sv wr => ∃ (u : Nat) (L : List Nat), uv = .int .u64 (u : Int) ∧ sv = .string (mkB L) ∧ u < 18446744073709551616 ∧ L.length ≤ 10 ∧ Hid (L ++ vb u = M) ∧ Below w.heap.size w wr) (fun uv _ _ => (intOf uv).toNat)
    case atStart => exact ⟨u0, [], rfl, rfl, hz, by simp, HM, Below.refl _ _⟩
    case round =>
      obtain ⟨u, L, rfl, rfl, hu, hL, HL, hb⟩ := hrel
      clear HM hz e3
      by_cases h128 : u < 128
      · have d1 : decide ((128 : Int) ≤ (u : Int)) = false := by simp; omega
        have d2 : ¬ (128 : Int) ≤ (u : Int) := by omega
        have f1 : IntKind.u8.wrap (u : Int) = (u : Int) := by rw [IntKind.wrap_u8]; omega
        have kc := conv_one wr u (by omega)
        have ka := addL L [u] (by simp; omega)
        have HE : Hid (L ++ [u] = M) := Lib.hid (by rw [← vb_small h128]; exact HL.out)
        go_wp2_with fail
        go_ret
        exact ⟨by rw [← HE.out]; rfl, hb.alloc hb.size _⟩
      · have d1 : decide ((128 : Int) ≤ (u : Int)) = true := by simp; omega
        have d2 : (128 : Int) ≤ (u : Int) := by omega
        obtain ⟨q, hq⟩ : ∃ q, q = u % 128 := ⟨_, rfl⟩
        obtain ⟨y, hy⟩ : ∃ y, y = q + 128 := ⟨_, rfl⟩
        obtain ⟨u2, hu2⟩ : ∃ u2, u2 = u / 128 := ⟨_, rfl⟩
        have f1 : (u : Int) % 128 = (q : Int) := by omega
        have f2 : (u : Int).tmod 128 = (q : Int) := by rw [Int.tmod_eq_emod_of_nonneg (by omega)]; exact f1
        have f3 : IntKind.u8.wrap (q : Int) = (q : Int) := by rw [IntKind.wrap_u8]; omega
        have f4 : IntKind.u8.wrap ((q : Int) + 128) = (y : Int) := by rw [IntKind.wrap_u8]; omega
        have f5 : (u : Int) / 128 = (u2 : Int) := by omega
        have f6 : (u : Int).tdiv 128 = (u2 : Int) := by rw [Int.tdiv_eq_ediv_of_nonneg (by omega)]; exact f5
        have kc := conv_one wr y (by omega)
        have ka := addL L [y] (by simp; omega)
        have HE : Hid ((L ++ [y]) ++ vb u2 = M) := Lib.hid (by rw [← HL.out, vb_big h128, hy, hq, hu2]; simp)
        have hl2 : (L ++ [y]).length ≤ 10 := by
          have h1 := congrArg List.length HE.out
          rw [List.length_append] at h1
          omega
        have hu3 : u2 < u := by omega
        clear hq hy hu2 HL
        go_wp2_with fail
        go_roundw
        case rel => exact ⟨u2, L ++ [y], rfl, rfl, by omega, hl2, HE, hb.alloc hb.size _⟩
        case measure => simp [intOf]; omega
end Go.Proofs.YtmhhcfceikcfbaaGreat
