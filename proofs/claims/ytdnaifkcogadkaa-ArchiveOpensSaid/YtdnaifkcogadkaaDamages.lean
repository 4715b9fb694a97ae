/- Walk: the law ArchiveDamages. -/
import Derived.Test.YtdnaifkcogadkaaB2
import Derived.Test.YtdnaifkcogadkaaReturns
namespace Go.Proofs.Ytdnaifkcogadkaa
open Go.RowKit

theorem ArcOf.arc {l q : List Prt} {s : ByteArray} (h : ArcOf l s q) : Arc q := ⟨h.good, h.sorted⟩
theorem conv1 (W : World) (c : Nat) (hc : c < 256) : (convert 35 9 (.slice (some ⟨W.heap.size, 0, none⟩) 1 1)).run Try.prog (W.alloc (.cells #[.int .u8 (c : Int)] 5)) = .ok (.string (ofN [c])) (W.alloc (.cells #[.int .u8 (c : Int)] 5)) :=
  run_bytes_str (W.alloc (.cells #[.int .u8 (c : Int)] 5)) ⟨W.heap.size, 0, none⟩ 1 [c] (fun b hb => by rw [List.mem_singleton] at hb; omega) (fun j u hj => cells_at (W := W) rfl [.int .u8 (c : Int)] 5 j u hj)
theorem conv1d (W : World) (c : Nat) (hc : c < 256) : (convert 35 9 (.slice (some ⟨W.heap.size, 0, none⟩) 1 1)).run Try.prog (W.alloc (.cells #[.int .u8 (c : Int)] 5)).drew = .ok (.string (ofN [c])) (W.alloc (.cells #[.int .u8 (c : Int)] 5)).drew :=
  run_bytes_str (W.alloc (.cells #[.int .u8 (c : Int)] 5)).drew ⟨W.heap.size, 0, none⟩ 1 [c] (fun b hb => by rw [List.mem_singleton] at hb; omega) (cells_byte W W.heap.size c rfl)
theorem decPost_fail {B : Nat} {l : List Nat} {v : Value} {n : Int} {w : World} (h : DecPost B l v n w) (he : decE l ≠ 0) : n ≠ 0 ∧ ∃ A c, v = .slice A 0 c := by
  obtain ⟨h1, h2⟩ := h
  rw [decP_bad he] at h2
  obtain ⟨A, c, hv, _, _⟩ := Own.shape h2
  exact ⟨by rw [h1]; exact he, A, c, hv⟩
set_option maxRecDepth 100000 in
set_option maxHeartbeats 4000000 in
theorem damages_any (v : Value) (l : List Prt) (at_ xo : Nat) (w : World) (h : Parts w w.heap.size v l) (ha : at_ < 65536) (hx : xo < 256) : Calls Try.prog 9 #[v, .agg #[.int .u16 at_, .int .u8 xo]] w fun e w' => e = .returned (.bool true) ∧ Below w.heap.size w w' := by
  have hbx : (w.alloc (.cells #[.int .u16 (at_ : Int), .int .u8 (xo : Int)] 31)).heap[w.heap.size]? = some (.cells #[.int .u16 (at_ : Int), .int .u8 (xo : Int)] 31 (0, 0)) := heap_alloc_new _ _
  have hb0 := (Below.refl w.heap.size w).alloc (Nat.le_refl _) (.cells #[.int .u16 (at_ : Int), .int .u8 (xo : Int)] 31)
  have hP0 := Sl.over h hb0
  clear h
  go_enter Try.func9, Try.ntmps9
  go_wp2_with fail
  refine (few_any v l _ hP0).mono ?_
  rintro e w1 ⟨v1, rfl, hown, hk1⟩
  have hP1 := hown.sl encP_length
  clear hown hP0
  have hSm := Lib.hid (few_small l)
  obtain ⟨f, hf⟩ : ∃ f, f = fewL l := ⟨_, rfl⟩
  rw [← hf] at hP1 hSm
  clear hf
  have hbx1 := (hk1.block _ (lt_of_block hbx)).trans hbx
  have hb1 := hb0.trans (hk1.mono hb0.size)
  clear hbx hb0 hk1
  go_wp2_with fail
  refine (known_any w1).mono ?_
  rintro e w2 ⟨rfl, hk2⟩
  have hP2 := hP1.over hk2
  have hbx2 := (hk2.block _ (lt_of_block hbx1)).trans hbx1
  have hb2 := hb1.trans (hk2.mono hb1.size)
  clear hP1 hk2 hbx1 hb1
  go_wp2_with fail
  refine (encode_any v1 f w2 hP2 hSm.out).mono ?_
  rintro e w3 ⟨s, n, rfl, hp, hk3⟩
  have hbx3 := (hk3.block _ (lt_of_block hbx2)).trans hbx2
  have hb3 := hb2.trans (hk3.mono hb2.size)
  clear hP2 hbx2 hb2 hk3
  by_cases he : errE f = 0
  case neg =>
    have hn : n ≠ 0 := by rw [hp.1]; exact he
    have hn1 : (n != 0) = true := by simpa using hn
    clear hp he hn hbx3
    go_wp2_with fail
    go_ret
    exact ⟨rfl, hb3⟩
  obtain ⟨q, hA⟩ := hp.arc he
  have hn : n = 0 := hp.1.trans he
  have HA := Lib.hid hA
  have hsz := hA.size
  have hpos : 0 < s.size := by
    have h1 := hA.bytes
    have h2 := encL_ne q
    rw [← h1] at h2
    rcases Nat.eq_zero_or_pos s.size with h0 | h0
    · exact absurd (List.eq_nil_of_length_eq_zero (by rw [bytesN_length]; exact h0)) h2
    · exact h0
  clear hp he hA
  subst hn
  have hc0 : w3.cell? ⟨w.heap.size, 0, none⟩ = some (.int .u16 (at_ : Int)) := blk_cell hbx3 0
  have hc1 : w3.cell? ⟨w.heap.size, 1, none⟩ = some (.int .u8 (xo : Int)) := blk_cell hbx3 1
  clear hbx3
  obtain ⟨a, ha1⟩ : ∃ a, a = at_ % s.size := ⟨_, rfl⟩
  have hal : a < s.size := by rw [ha1]; exact Nat.mod_lt _ hpos
  have hmod : (at_ : Int) % (s.size : Int) = (a : Int) := by rw [ha1]; simp
  obtain ⟨x, hx1⟩ : ∃ x, x = max xo 1 := ⟨_, rfl⟩
  have hxl : x < 256 := by omega
  have hxp : 0 < x := by omega
  have hmax : max (xo : Int) 1 = (x : Int) := by omega
  have hx8 : IntKind.u8.wrap (x : Int) = (x : Int) := by rw [IntKind.wrap_u8']; omega
  have hn0 : ¬ ((s.size : Int) = 0) := by omega
  have hn2 : ((s.size : Int) == 0) = false := by rw [beq_eq_false_iff_ne]; omega
  clear ha1 hx1
  go_wp2_with fail
  rw [hmod]
  have h1 : IntKind.i64.wrap ((a : Int) + 1) = (a : Int) + 1 := IntWalk.i64_in _ (by omega)
  have h2 : 0 ≤ (a : Int) + 1 := by omega
  have h3 : (a : Int) + 1 ≤ (s.size : Int) := by omega
  have h4 : (a : Int) < (s.size : Int) := by omega
  have h5 : (a : Int) ≤ (s.size : Int) := by omega
  have h6 : ((a : Int) + 1).toNat = a + 1 := by omega
  obtain ⟨c, hcc⟩ : ∃ c, s[a].toNat = c := ⟨_, rfl⟩
  have hcl : c < 256 := by rw [← hcc]; exact s[a].toNat_lt
  have hxo := u8_xor_nat c x hcl hxl
  have hdl : c ^^^ x < 256 := Nat.xor_lt_two_pow (n := 8) (by omega) (by omega)
  have hne : c ≠ c ^^^ x := fun e => by
    have e3 := congrArg (c ^^^ ·) e
    simp only [← Nat.xor_assoc, Nat.xor_self, Nat.zero_xor] at e3
    omega
  have HS : Hid (bytesN s = bytesN (s.extract 0 a) ++ [c] ++ bytesN (s.extract (a + 1) s.size)) := Lib.hid (by rw [bytesN_at s a hal, hcc])
  have HSt : Hid (bytesN (s.extract 0 a) = (bytesN s).take a) := Lib.hid (by rw [bytesN_extract]; rfl)
  obtain ⟨d, hd⟩ : ∃ d, d = c ^^^ x := ⟨_, rfl⟩
  rw [← hd] at hxo hdl hne
  clear hd
  have hcv := conv1d w3 d hdl
  have hcw := fun W : World => conv1 W x hxl
  have z1 : (s.extract 0 a).size = a := by rw [ByteArray.size_extract]; omega
  have z4 : (s.extract (a + 1) s.size).size = s.size - (a + 1) := by rw [ByteArray.size_extract]; omega
  obtain ⟨u1, hu1⟩ : ∃ u, u = s.extract 0 a := ⟨_, rfl⟩
  obtain ⟨u2, hu2⟩ : ∃ u, u = s.extract (a + 1) s.size := ⟨_, rfl⟩
  obtain ⟨o1, ho1⟩ : ∃ u, u = ofN [d] := ⟨_, rfl⟩
  obtain ⟨o2, ho2⟩ : ∃ u, u = ofN [x] := ⟨_, rfl⟩
  rw [← hu1] at HS HSt z1
  rw [← hu2] at HS z4
  rw [← ho1] at hcv
  simp only [← ho2] at hcw
  have y1 : o1.size = 1 := by rw [ho1]; exact ofN_size _
  have y2 : o2.size = 1 := by rw [ho2]; exact ofN_size _
  obtain ⟨t1, ht1⟩ : ∃ u, u = u1 ++ o1 := ⟨_, rfl⟩
  obtain ⟨t2, ht2⟩ : ∃ u, u = t1 ++ u2 := ⟨_, rfl⟩
  obtain ⟨t3, ht3⟩ : ∃ u, u = s ++ o2 := ⟨_, rfl⟩
  have q1 : t1.size = a + 1 := by rw [ht1, ByteArray.size_append, z1, y1]
  have q2 : t2.size = s.size := by rw [ht2, ByteArray.size_append, q1, z4]; omega
  have q3 : t3.size = s.size + 1 := by rw [ht3, ByteArray.size_append, y2]
  have hu1' := hu1.symm
  have hu2' := hu2.symm
  have B1 : Hid (decE (bytesN t2) ≠ 0) := Lib.hid (by
    rw [ht2, ht1, bytesN_append, bytesN_append, ho1, bytesN_ofN (fun b hb => by rw [List.mem_singleton] at hb; omega)]
    exact HA.out.arc.turned (by rw [← HA.out.bytes]; exact HS.out) hne hdl)
  have B2 : Hid (decE (bytesN u1) ≠ 0) := Lib.hid (by
    rw [HSt.out, HA.out.bytes]
    exact HA.out.arc.missing (by rw [← HA.out.bytes, bytesN_length]; exact hal))
  have B3 : Hid (decE (bytesN t3) ≠ 0) := Lib.hid (by
    rw [ht3, bytesN_append, ho2, bytesN_ofN (fun b hb => by rw [List.mem_singleton] at hb; omega), HA.out.bytes]
    exact HA.out.arc.added x)
  have j1 : ∀ w : World, (Op.stringOp .add u1 o1).run Try.prog w = .ok (.string t1) w := fun w => by rw [ht1]; exact run_string_add_sum w _ _ (by omega)
  have j2 : ∀ w : World, (Op.stringOp .add t1 u2).run Try.prog w = .ok (.string t2) w := fun w => by rw [ht2]; exact run_string_add_sum w _ _ (by omega)
  have j3 : ∀ w : World, (Op.stringOp .add s o2).run Try.prog w = .ok (.string t3) w := fun w => by rw [ht3]; exact run_string_add_sum w _ _ (by omega)
  have hb5 : Below w.heap.size w (w3.alloc (.cells #[.int .u8 (d : Int)] 5)).drew := (hb3.alloc hb3.size _).drew
  have D1 := Lib.hid (fun W => decode_any t2 W (by omega))
  have D2 := Lib.hid (fun W => decode_any u1 W (by omega))
  have D3 := Lib.hid (fun W => decode_any t3 W (by omega))
  clear hu1 hu2 ho1 ho2 ht1 ht2 ht3 HS HSt hne z1 z4 y1 y2 q1 q2 q3
  go_region_held_law (fun _ => True) (trivial)
    (first
      | (go_at_call 23; (with_reducible refine (D1.out _).mono ?_); rintro e w5 ⟨va, na, rfl, hp5, hk5⟩; have HP5 := Lib.hid hp5; clear hp5))
  have hb6 := hb5.trans (hk5.mono hb5.size)
  obtain ⟨hna, A1, c1, hv1⟩ := decPost_fail HP5.out B1.out
  subst hv1
  have hna1 : (na != 0) = true := by simpa using hna
  clear HP5 hk5 hb5 hna
  go_wp2_with fail
  refine (D2.out _).mono ?_
  rintro e w6 ⟨vb, nb, rfl, hp6, hk6⟩
  have hb7 := hb6.trans (hk6.mono hb6.size)
  obtain ⟨hnb, A2, c2, hv2⟩ := decPost_fail hp6 B2.out
  subst hv2
  have hnb1 : (nb != 0) = true := by simpa using hnb
  clear hp6 hk6 hb6 hnb
  go_wp2_with fail
  refine (D3.out _).mono ?_
  rintro e w7 ⟨vc, nc, rfl, hp7, hk7⟩
  have hb8 := (hb7.alloc hb7.size (.cells #[.int .u8 (x : Int)] 5)).trans (hk7.mono (by have := hb7.size; simp; omega))
  obtain ⟨hnc, A3, c3, hv3⟩ := decPost_fail hp7 B3.out
  subst hv3
  have hnc1 : (nc != 0) = true := by simpa using hnc
  clear hp7 hk7 hb7 hnc
  go_wp2_with fail
  go_ret
  exact ⟨rfl, hb8⟩
end Go.Proofs.Ytdnaifkcogadkaa
