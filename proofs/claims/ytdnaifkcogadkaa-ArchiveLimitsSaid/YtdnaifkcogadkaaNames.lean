/- Walk: ArchiveNames. -/
import Derived.Deep.RegionHeld3
import Derived.Test.YtdnaifkcogadkaaD1
namespace Go.Proofs.Ytdnaifkcogadkaa
open Go.RowKit

theorem crcStep_inj {a b : Nat} (ha : a < 4294967296) (hb : b < 4294967296) (h : crcStep a = crcStep b) : a = b := by
  have h1 := crcStep_xor a b
  rw [h, Nat.xor_self] at h1
  have hlt : a ^^^ b < 4294967296 := xor32_lt ha hb
  have h0 : a ^^^ b = 0 := by
    unfold crcStep at h1
    generalize a ^^^ b = c at h1 hlt
    split at h1
    · exfalso
      have h2 : c / 2 = 3988292384 := by
        have h3 := congrArg (· ^^^ 3988292384) h1
        simp only [Nat.xor_assoc, Nat.xor_self, Nat.xor_zero, Nat.zero_xor] at h3
        exact h3
      omega
    · omega
  have h3 := congrArg (· ^^^ b) h0
  simpa only [Nat.xor_assoc, Nat.xor_self, Nat.xor_zero, Nat.zero_xor] using h3
theorem crcSteps_inj : ∀ (k : Nat) {a b : Nat}, a < 4294967296 → b < 4294967296 → crcSteps k a = crcSteps k b → a = b
  | 0, _, _, _, _, h => h
  | k + 1, _, _, ha, hb, h => crcStep_inj ha hb (crcSteps_inj k (crcStep_lt ha) (crcStep_lt hb) h)
theorem xor_inj {a b c : Nat} (h : a ^^^ c = b ^^^ c) : a = b := by
  have h3 := congrArg (· ^^^ c) h
  simpa only [Nat.xor_assoc, Nat.xor_self, Nat.xor_zero] using h3
theorem crcF_inj : ∀ (l : List Nat) {a b : Nat}, a < 4294967296 → b < 4294967296 → (∀ c ∈ l, c < 256) → crcF a l = crcF b l → a = b
  | [], _, _, _, _, _, h => h
  | c :: l, a, b, ha, hb, hl, h => by
    have hc := hl c (by simp)
    have h1 : crcB a c = crcB b c := crcF_inj l (crcB_lt ha hc) (crcB_lt hb hc) (fun d hd => hl d (by simp [hd])) h
    exact xor_inj (crcSteps_inj 8 (xor32_lt ha (by omega)) (xor32_lt hb (by omega)) h1)
/-- One byte turned turns the checksum. -/
theorem crcL_turned (l m : List Nat) (c d : Nat) (hc : c < 256) (hd : d < 256) (hl : ∀ b ∈ l, b < 256) (hm : ∀ b ∈ m, b < 256) (hne : c ≠ d) : crcL (l ++ [c] ++ m) ≠ crcL (l ++ [d] ++ m) := fun h => by
  unfold crcL at h
  have h1 : crcF ones (l ++ [c] ++ m) = crcF ones (l ++ [d] ++ m) := by
    rw [Nat.xor_comm ones, Nat.xor_comm ones] at h
    exact xor_inj h
  rw [crcF_append, crcF_append, crcF_append, crcF_append, crcF_one, crcF_one] at h1
  have hL := crcF_lt l (x := ones) (by unfold ones; omega) hl
  have h2 := crcF_inj m (crcB_lt hL hc) (crcB_lt hL hd) hm h1
  have h3 := crcSteps_inj 8 (xor32_lt hL (by omega)) (xor32_lt hL (by omega)) h2
  rw [Nat.xor_comm _ c, Nat.xor_comm _ d] at h3
  exact hne (xor_inj h3)
theorem bytesN_append (a b : ByteArray) : bytesN (a ++ b) = bytesN a ++ bytesN b := by
  unfold bytesN
  simp [ByteArray.data_append]

theorem bytesN_extract (t : ByteArray) (i j : Nat) : bytesN (t.extract i j) = ((bytesN t).take j).drop i := by
  unfold bytesN
  rw [ByteArray.data_extract, Array.toList_extract, List.extract_eq_take_drop, ← List.drop_take, List.map_drop, List.map_take]
theorem bytesN_at (t : ByteArray) (a : Nat) (h : a < t.size) : bytesN t = bytesN (t.extract 0 a) ++ [t[a].toNat] ++ bytesN (t.extract (a + 1) t.size) := by
  have hl : a < (bytesN t).length := by rw [bytesN_length]; exact h
  have e : (bytesN t)[a] = t[a].toNat := by simp [bytesN]; rfl
  rw [bytesN_extract, bytesN_extract, List.drop_zero, ← e, List.take_of_length_le (l := bytesN t) (i := t.size) (by rw [bytesN_length]; exact Nat.le_refl _), List.take_append_getElem hl, List.take_append_drop]

set_option maxRecDepth 100000 in
set_option maxHeartbeats 1000000 in
theorem names_any (s : ByteArray) (at_ xo : Nat) (w : World) (hs : s.size ≤ 9223372036854775807) (ha : at_ < 65536) (hx : xo < 256) : Calls Try.prog 4 #[.string s, .agg #[.int .u16 at_, .int .u8 xo]] w fun e w' => e = .returned (.bool true) ∧ Below w.heap.size w w' := by
  have H := Lib.hid (known_any (w.alloc (.cells #[.int .u16 at_, .int .u8 xo] 31)))
  have hbx : (w.alloc (.cells #[.int .u16 (at_ : Int), .int .u8 (xo : Int)] 31)).heap[w.heap.size]? = some (.cells #[.int .u16 (at_ : Int), .int .u8 (xo : Int)] 31 (0, 0)) := heap_alloc_new _ _
  have hb0 := (Below.refl w.heap.size w).alloc (Nat.le_refl _) (.cells #[.int .u16 (at_ : Int), .int .u8 (xo : Int)] 31)
  go_enter Try.func4, Try.ntmps4
  go_wp2_with fail
  refine H.out.mono ?_
  rintro e w1 ⟨rfl, hk1⟩
  obtain ⟨t, ht⟩ : ∃ t, t = s.extract 0 (min (s.size : Int) 100).toNat := ⟨_, rfl⟩
  have hts : t.size ≤ 100 := by rw [ht, ByteArray.size_extract]; omega
  rw [← ht]
  clear ht
  have hbx1 := (hk1.block _ (lt_of_block hbx)).trans hbx
  have hb1 := hb0.trans (hk1.mono (by simp))
  have hz1 : w.heap.size < w1.heap.size := lt_of_block hbx1
  clear hbx hb0 hk1
  go_wp2_with fail
  refine (isName_lib t w1 (by omega)).mono ?_
  rintro e w2 ⟨rfl, rfl⟩
  go_wp2_with fail
  refine (isName_ref t w1 (by omega)).mono ?_
  rintro e w2 ⟨rfl, rfl⟩
  obtain ⟨nb, hnb⟩ : ∃ nb, nb = nameL (bytesN t) := ⟨_, rfl⟩
  rw [← hnb]
  clear hnb
  have e1 : (nb != nb) = false := by cases nb <;> rfl
  go_wp2_with fail
  refine (checksum_any t w1 (by omega)).mono ?_
  rintro e w3 ⟨rfl, hk3⟩
  go_wp2_with fail
  refine (sum_any t w3 (by omega)).mono ?_
  rintro e w4 ⟨rfl, rfl⟩
  have hbx3 := (hk3.block _ (lt_of_block hbx1)).trans hbx1
  have hb3 := hb1.trans (hk3.mono (Nat.le_of_lt hz1))
  have hz3 : w.heap.size < w3.heap.size := lt_of_block hbx3
  clear hbx1 hb1 hk3 hz1
  have hc0 : w3.cell? ⟨w.heap.size, 0, none⟩ = some (.int .u16 (at_ : Int)) := blk_cell hbx3 0
  have hc1 : w3.cell? ⟨w.heap.size, 1, none⟩ = some (.int .u8 (xo : Int)) := blk_cell hbx3 1
  by_cases h0 : t.size = 0
  · have hcr : crcL (bytesN t) = 0 := by
      have : bytesN t = [] := List.eq_nil_of_length_eq_zero (by rw [bytesN_length, h0])
      rw [this]; rfl
    rw [hcr]
    go_wp2_with fail
    refine (checksum_any t w3 (by omega)).mono ?_
    rw [hcr]
    rintro e w5 ⟨rfl, hk5⟩
    have hb5 := hb3.trans (hk5.mono (Nat.le_of_lt hz3))
    go_wp2_with fail
    go_ret
    exact ⟨rfl, hb5⟩
  · have hpos : 0 < t.size := by omega
    obtain ⟨a, ha1⟩ : ∃ a, a = at_ % t.size := ⟨_, rfl⟩
    have hal : a < t.size := by rw [ha1]; exact Nat.mod_lt _ hpos
    have hmod : (at_ : Int) % (t.size : Int) = (a : Int) := by rw [ha1]; simp
    obtain ⟨x, hx1⟩ : ∃ x, x = max xo 1 := ⟨_, rfl⟩
    have hxl : x < 256 := by omega
    have hxp : 0 < x := by omega
    have hmax : max (xo : Int) 1 = (x : Int) := by omega
    have hx8 : IntKind.u8.wrap (x : Int) = (x : Int) := by rw [IntKind.wrap_u8']; omega
    have hn0 : ¬ ((t.size : Int) = 0) := by omega
    obtain ⟨cr, hcr⟩ : ∃ cr, cr = crcL (bytesN t) := ⟨_, rfl⟩
    rw [← hcr]
    clear ha1 hx1
    go_wp2_with fail
    rw [hmod]
    have h1 : IntKind.i64.wrap ((a : Int) + 1) = (a : Int) + 1 := IntWalk.i64_in _ (by omega)
    have h2 : 0 ≤ (a : Int) + 1 := by omega
    have h3 : (a : Int) + 1 ≤ (t.size : Int) := by omega
    have h4 : (a : Int) < (t.size : Int) := by omega
    have h5 : (a : Int) ≤ (t.size : Int) := by omega
    have h6 : ((a : Int) + 1).toNat = a + 1 := by omega
    obtain ⟨c, hcc⟩ : ∃ c, t[a].toNat = c := ⟨_, rfl⟩
    have hcl : c < 256 := by rw [← hcc]; exact t[a].toNat_lt
    have hxo := u8_xor_nat c x hcl hxl
    have hxl2 : ∀ b ∈ [c ^^^ x], b < 256 := fun b hb => by
      obtain rfl : b = c ^^^ x := by simpa using hb
      exact Nat.xor_lt_two_pow (n := 8) (by omega) (by omega)
    have hcv0 := run_bytes_str (w3.alloc (.cells #[.int .u8 ((c ^^^ x : Nat) : Int)] 5)).drew ⟨w3.heap.size, 0, none⟩ 1 [c ^^^ x] hxl2 (cells_byte w3 w3.heap.size (c ^^^ x) rfl)
    rw [show [c ^^^ x].length = 1 from rfl] at hcv0
    have hb5 : Below w.heap.size w (w3.alloc (.cells #[.int .u8 ((c ^^^ x : Nat) : Int)] 5)).drew := (hb3.alloc (Nat.le_of_lt hz3) _).drew
    have z1 : (t.extract 0 a).size = a := by rw [ByteArray.size_extract]; omega
    have z2 : (ofN [c ^^^ x]).size = 1 := ofN_size _
    have z3 : (t.extract 0 a ++ ofN [c ^^^ x]).size = a + 1 := by rw [ByteArray.size_append, z1, z2]
    have z4 : (t.extract (a + 1) t.size).size = t.size - (a + 1) := by rw [ByteArray.size_extract]; omega
    have q1 : ((t.extract 0 a).size : Int) + (ofN [c ^^^ x]).size ≤ 9223372036854775807 := by rw [z1, z2]; omega
    have q2 : ((t.extract 0 a ++ ofN [c ^^^ x]).size : Int) + (t.extract (a + 1) t.size).size ≤ 9223372036854775807 := by rw [z3, z4]; omega
    have j1 : ∀ w : World, (Op.stringOp .add (t.extract 0 a) (ofN [c ^^^ x])).run Try.prog w = .ok (.string (t.extract 0 a ++ ofN [c ^^^ x])) w := fun w => run_string_add_sum w _ _ (by rw [z1, z2]; omega)
    have j2 : ∀ w : World, (Op.stringOp .add (t.extract 0 a ++ ofN [c ^^^ x]) (t.extract (a + 1) t.size)).run Try.prog w = .ok (.string (t.extract 0 a ++ ofN [c ^^^ x] ++ t.extract (a + 1) t.size)) w := fun w => run_string_add_sum w _ _ (by rw [z3, z4]; omega)
    go_region_held_law (fun _ => True) (trivial)
      (first
        | (go_at_call 19; refine (checksum_any _ _ (by simp [ByteArray.size_extract, ofN_size]; omega)).mono ?_; rintro e w5 ⟨rfl, hk5⟩)
        | (go_at_call 20; refine (sum_any _ _ (by omega)).mono ?_; rintro e w6 ⟨rfl, rfl⟩))
    have HN : Hid (crcL (bytesN (t.extract 0 a ++ ofN [c ^^^ x] ++ t.extract (a + 1) t.size)) ≠ crcL (bytesN t)) := Lib.hid (by
      rw [bytesN_append, bytesN_append, bytesN_ofN hxl2, bytesN_at t a hal, hcc]
      refine crcL_turned _ _ _ _ (hxl2 _ (by simp)) hcl (bytesN_lt _) (bytesN_lt _) (fun e => ?_)
      have e3 := congrArg (c ^^^ ·) e
      simp only [← Nat.xor_assoc, Nat.xor_self, Nat.zero_xor] at e3
      omega)
    have hb6 := hb5.trans (hk5.mono hb5.size)
    obtain ⟨u, hu⟩ : ∃ u, u = crcL (bytesN (t.extract 0 a ++ ofN [c ^^^ x] ++ t.extract (a + 1) t.size)) := ⟨_, rfl⟩
    obtain ⟨v, hv⟩ : ∃ v, v = crcL (bytesN t) := ⟨_, rfl⟩
    rw [← hu, ← hv] at HN
    rw [← hu, ← hv]
    clear hu hv
    have huv : ((u : Int) != (v : Int)) = true := by have := HN.out; simp; omega
    rw [huv]
    go_wp2_with fail
    go_ret
    exact ⟨rfl, hb6⟩
end Go.Proofs.Ytdnaifkcogadkaa
