/- Walks: the reference's keys. -/
import Derived.Test.YtknnjnginmkblaaDoorR5
namespace Go.Proofs.YtknnjnginmkblaaDoor
open Go.RowKit

theorem bytesN_append (a b : ByteArray) : bytesN (a ++ b) = bytesN a ++ bytesN b := by
  unfold bytesN
  rw [ByteArray.data_append]
  simp
/-- What the reference's Key answers. -/
def RkeyE (w : World) (L : List Nat) (e : Ending) (w' : World) : Prop := ∃ t : ByteArray, e = .returned (.string t) ∧ bytesN t = L ∧ Below w.heap.size w w'

set_option maxRecDepth 100000 in
set_option maxHeartbeats 8000000 in
theorem rkey_lib (s : ByteArray) (o : Opt) (w : World) (hst : 1 ≤ o.strength ∧ o.strength ≤ 4) (hs1 : s.size ≤ 4096) (hs2 : (pts (bytesN s)).isSome = true) :
    Calls Tryd.prog 18 #[.string s, optV o] w (RkeyE w (keyL o.strength.toNat (bytesN s) (elS o s))) := by
  obtain ⟨i0, hi, hz0, hz1, hz2⟩ := info_parts info3
  have CE : Hid (∀ w : World, Calls Tryd.prog 27 #[.string s, optV o] w (ElsE w (elS o s))) := Lib.hid (fun w => relements_lib s o w hs1 hs2)
  have hlx := elS_len (o := o) hs1 hs2
  have hbd := elS_bd (o := o) hs1 hs2
  obtain ⟨x, hx⟩ : ∃ x, x = elS o s := ⟨_, rfl⟩
  rw [← hx] at CE hlx hbd ⊢
  have HBD := Lib.hid hbd
  clear hbd
  have HSL : Hid (∀ b ∈ bytesN s, b < 256) := Lib.hid (bytesN_lt s)
  obtain ⟨L, hL⟩ : ∃ L, L = bytesN s := ⟨_, rfl⟩
  have hLl : L.length ≤ 4096 := by rw [hL, bytesN_length]; exact hs1
  have HLE := Lib.hid hL
  rw [← hL] at HSL ⊢
  clear hx hs2 hL
  obtain ⟨st, num, ign, up⟩ := o
  obtain ⟨K, hK⟩ : ∃ K : Nat, st = (K : Int) := ⟨st.toNat, by have := hst.1; simp only at this; omega⟩
  subst hK
  have hK1 : 1 ≤ K := by have := hst.1; simp only at this; omega
  have hK4 : K ≤ 4 := by have := hst.2; simp only at this; omega
  clear hst
  have e0 : ((⟨(K : Int), num, ign, up⟩ : Opt).strength).toNat = K := by simp
  rw [e0]
  clear e0
  change Hid (∀ w : World, Calls Tryd.prog 27 #[.string s, .agg #[.int .i64 (K : Int), .bool num, .bool ign, .bool up]] w (ElsE w x)) at CE
  show Calls Tryd.prog 18 #[.string s, .agg #[.int .i64 (K : Int), .bool num, .bool ign, .bool up]] w _
  go_enter Tryd.func18, Tryd.ntmps18
  go_wp2_with fail
  have B0 := Box.start31 w K num ign up
  have b0 : Below w.heap.size w (w.alloc (.cells #[.int .i64 (K : Int), .bool num, .bool ign, .bool up] 31)) := (Below.refl w.heap.size w).alloc (Nat.le_refl _) _
  obtain ⟨w0, hw0⟩ : ∃ w0, w0 = w.alloc (.cells #[.int .i64 (K : Int), .bool num, .bool ign, .bool up] 31) := ⟨_, rfl⟩
  rw [← hw0] at B0 b0 ⊢
  clear hw0
  refine (CE.out _).mono ?_
  rintro e w1 ⟨vx, rfl, hsx, b1⟩
  have BB := Lib.hid (B0.over b1)
  have b1' : Below w.heap.size w w1 := b0.trans (b1.mono b0.size)
  have HX := Lib.hid hsx
  clear b1 b0 B0 CE hsx
  obtain ⟨M, hM⟩ : ∃ M : Nat, M = min K 3 := ⟨_, rfl⟩
  have hM1 : 1 ≤ M ∧ M ≤ 3 := by omega
  have HM := Lib.hid hM
  clear hM
  go_wp2_with fail
  go_loopw [6, 7] (fun ov lv wr => ∃ j : Nat, j ≤ M ∧ lv = .int .i64 ((j + 1 : Nat) : Int) ∧ Own encB 1 5 wr w1.heap.size ov (keyL j L x) ∧ Below w1.heap.size w1 wr) (fun _ lv _ => (4 - intOf lv).toNat)
  case atStart => exact ⟨0, Nat.zero_le _, rfl, by rw [(keyL_step L x).1]; exact Own.nil _ _, Below.refl _ _⟩
  case round =>
    obtain ⟨j, hj, rfl, hown, hb⟩ := hrel
    have hbz := hb.size
    obtain ⟨c0, c1, c2, c3⟩ := BB.out.over hb
    have hmn : (if (3 : Int) < (K : Int) then (3 : Int) else (K : Int)) = (M : Int) := by have := HM.out; split <;> omega
    by_cases hlt : j < M
    · have hmin : ((j + 1 : Nat) : Int) ≤ K ∧ ((j + 1 : Nat) : Int) ≤ 3 := by have := HM.out; omega
      have q1 : ((j + 1 : Nat) : Int) ≤ (K : Int) := hmin.1
      have q2 : ((j + 1 : Nat) : Int) ≤ 3 := hmin.2
      have hj3 : j = 0 ∨ j = 1 ∨ j = 2 := by omega
      rcases hj3 with rfl | rfl | rfl
      · have CW := Lib.hid (rweights_1 vx x wr (HX.out.over hb) (by omega))
        have HWB : Hid (∀ w ∈ wts El.p x ++ [0], w < 16777216 ∧ True) := Lib.hid (fun w hw => by
          rcases List.mem_append.1 hw with hw | hw
          · exact ⟨by have := (wts_bd HBD.out.p w hw).2; omega, trivial⟩
          · rw [List.mem_singleton.1 hw]; exact ⟨by omega, trivial⟩)
        have hwl := wts_len El.p x
        have HLV : Hid (keyL 1 L x = keyL 0 L x ++ (wts El.p x ++ [0]).flatMap enc3) := Lib.hid ((keyL_step L x).2.1.trans rfl)
        have hkl := keyL_len 0 L x
        obtain ⟨P, hP⟩ : ∃ P, P = wts El.p x := ⟨_, rfl⟩
        rw [← hP] at CW hwl HLV HWB
        obtain ⟨n, hn⟩ : ∃ n, n = (P ++ [0]).length := ⟨_, rfl⟩
        have hnl : n ≤ 8193 := by rw [hn, List.length_append, List.length_singleton]; omega
        have HN := Lib.hid hn
        obtain ⟨acc, hacc⟩ : ∃ a, a = keyL 0 L x := ⟨_, rfl⟩
        rw [← hacc] at HLV hkl hown
        have dlv : decide ((1 : Int) ≤ (M : Int)) = true := by simp; omega
        clear hP hn hacc
        go_wp2_with fail
        refine CW.out.mono ?_
        rintro e w2 ⟨v1, rfl, hO1, hb1⟩
        have hB1 := hown.over hb1
        have hz1' := hb1.size
        go_wp2_with (at_builtin; go_loud (refine wpList_push _ rfl _ _ 42 rfl wr.heap.size 3 i0 _ 1 8 Tryd.underlying42 hi hz0 hz1 hz2 rfl (by decide) encI_length encI_each _ P rfl (Own.alloc hO1 _) w2.heap.size 1 0 rfl (cells_new w2 (encI 0) 3) (by omega) (by omega) (by simp; omega) ?_; intro v2 w3 hO2 hg2; have hB2 := (hB1.alloc (.cells #[.int .i64 0] 3)).kept hg2 (Own.apart (hB1.alloc (.cells #[.int .i64 0] 3)) (Own.alloc hO1 _) (by decide)); have hb2 : Below wr.heap.size wr w3 := (hb1.alloc hz1' (.cells #[.int .i64 0] 3)).trans (Own.belowG (Own.alloc hO1 (.cells #[.int .i64 0] 3)) (by simp; omega) hg2); clear hg2 hO1 hB1 hb1; obtain ⟨g, cap, cur, rfl, hgb, hnc, hcm, hcur, htk⟩ := hO2.row (by simp); rw [← HN.out] at hnc ⊢))
        have HCUR : Hid (∀ k x : Nat, (P ++ [0])[k]? = some x → cur[k]? = some (.int .i64 (x : Int))) := Lib.hid (ints_cur htk)
        unfold maxLen at hcm
        have hbb : Below w1.heap.size w1 w3 := hb.trans (hb2.mono hbz)
        clear hO2 htk hb2
        obtain ⟨W, hW⟩ : ∃ W, W = P ++ [0] := ⟨_, rfl⟩
        rw [← hW] at HCUR HN HLV HWB
        clear hW hwl hcm
        go_loopw [6, 9] (fun bv iv wx => ∃ q : Nat, q ≤ n ∧ iv = .int .i64 q ∧ Own encB 1 5 wx w1.heap.size bv (acc ++ (W.take q).flatMap enc3) ∧ wx.heap[g]? = some (.cells cur 3 (0, 0)) ∧ Below w1.heap.size w1 wx) (fun _ iv _ => n - (intOf iv).toNat)
        case atStart => exact ⟨0, Nat.zero_le _, rfl, by rw [List.take_zero, List.flatMap_nil, List.append_nil]; exact hB2, hcur, hbb⟩
        case round =>
          obtain ⟨q, hq, rfl, hown, hcu, hb⟩ := hrel
          clear hB2 hcur hbb
          have hbz := hb.size
          by_cases hlq : q < n
          · have hlq' : (q : Int) < n := by omega
            obtain ⟨z, hz⟩ : ∃ z, W[q]? = some z := ⟨W[q]'(by rw [← HN.out]; exact hlq), by simp⟩
            have hcl : wr.cell? ⟨g, q, none⟩ = some (.int .i64 (z : Int)) := (cell_of_row wr g q cur 3 _ hcu).trans (HCUR.out q z hz)
            have HT : Hid (acc ++ (W.take (q + 1)).flatMap enc3 = acc ++ (W.take q).flatMap enc3 ++ enc3 z) := Lib.hid (by rw [take_flat hz, List.append_assoc])
            have hal : (acc ++ (W.take q).flatMap enc3).length ≤ 100000 := by
              rw [List.length_append, flat_len (n := 3) (fun _ => rfl), List.length_take]
              have : min q W.length ≤ n := by omega
              omega
            obtain ⟨B, hB⟩ : ∃ B, B = acc ++ (W.take q).flatMap enc3 := ⟨_, rfl⟩
            rw [← hB] at HT hal hown
            have HZ := Lib.hid hz
            have hzb : z < 16777216 := (HWB.out z (List.mem_of_getElem? hz)).1
            obtain ⟨y4, hy4⟩ : ∃ y, y = z % 256 := ⟨_, rfl⟩
            have f4 : (z : Int).tmod 256 = (y4 : Int) := by rw [Int.tmod_eq_emod_of_nonneg (by omega)]; omega
            have HY0 : Hid (((z / 65536 % 256 : Nat) : Int) = (z : Int) / 65536) := Lib.hid (by omega)
            obtain ⟨n0, hn0⟩ : ∃ y, y = z / 65536 % 256 := ⟨_, rfl⟩
            rw [← hn0] at HY0
            have HY1 : Hid (((z / 256 % 256 : Nat) : Int) = (z : Int) / 256 % 256) := Lib.hid (by omega)
            obtain ⟨n1, hn1⟩ : ∃ y, y = z / 256 % 256 := ⟨_, rfl⟩
            rw [← hn1] at HY1
            have HY2 : Hid (((z % 256 : Nat) : Int) = (y4 : Int) % 256) := Lib.hid (by omega)
            obtain ⟨n2, hn2⟩ : ∃ y, y = z % 256 := ⟨_, rfl⟩
            rw [← hn2] at HY2
            clear hB hz hy4
            have eq1 : IntKind.i64.wrap ((q : Int) + 1) = (q : Int) + 1 := IntWalk.i64_in _ (by omega)
            have HL : Hid (B ++ [n0] ++ [n1] ++ [n2] = B ++ enc3 z) := Lib.hid (by rw [hn0, hn1, hn2]; simp [enc3])
            clear hn0 hn1 hn2
            go_wp2_with (at_builtin; first
              | (have hh2 := ho1; go_loud (refine wpList_byte rfl _ _ rfl w1.heap.size _ (B ++ [n0] ++ [n1]) rfl (Own.alloc ho1 _) wp1.heap.size 1 n2 rfl (by rw [HY2.out]; exact cells_new wp1 [.int .u8 ((y4 : Int) % 256)] 5 0 _ rfl) (by first | omega | (simp only [List.length_append, List.length_singleton]; omega)) (by have := hb1q.size; simp; omega) ?_; intro vq2 wp2 ho2 hg2; have hc2 : wp2.heap[g]? = some (.cells cur 3 (0, 0)) := grown_block hg2 (alloc_block hc1) (Own.ne_block ho1 hc1 (by decide)); have hb2q : Below w1.heap.size w1 wp2 := (hb1q.alloc hb1q.size (.cells #[.int .u8 ((y4 : Int) % 256)] 5)).trans (Own.belowG (Own.alloc ho1 (.cells #[.int .u8 ((y4 : Int) % 256)] 5)) (by have := hb1q.size; simp; omega) hg2); have hl2q : wp2.cell? ⟨g, q, none⟩ = some (.int .i64 (z : Int)) := (cell_of_row wp2 g q cur 3 _ hc2).trans (HCUR.out q z HZ.out); clear hg2 ho1 hb1q hc1 hh2))
              | (have hh1 := ho0; go_loud (refine wpList_byte rfl _ _ rfl w1.heap.size _ (B ++ [n0]) rfl (Own.alloc ho0 _) wp0.heap.size 1 n1 rfl (by rw [HY1.out]; exact cells_new wp0 [.int .u8 ((z : Int) / 256 % 256)] 5 0 _ rfl) (by first | omega | (simp only [List.length_append, List.length_singleton]; omega)) (by have := hb0q.size; simp; omega) ?_; intro vq1 wp1 ho1 hg1; have hc1 : wp1.heap[g]? = some (.cells cur 3 (0, 0)) := grown_block hg1 (alloc_block hc0) (Own.ne_block ho0 hc0 (by decide)); have hb1q : Below w1.heap.size w1 wp1 := (hb0q.alloc hb0q.size (.cells #[.int .u8 ((z : Int) / 256 % 256)] 5)).trans (Own.belowG (Own.alloc ho0 (.cells #[.int .u8 ((z : Int) / 256 % 256)] 5)) (by have := hb0q.size; simp; omega) hg1); have hl1q : wp1.cell? ⟨g, q, none⟩ = some (.int .i64 (z : Int)) := (cell_of_row wp1 g q cur 3 _ hc1).trans (HCUR.out q z HZ.out); clear hg1 ho0 hb0q hc0 hh1))
              | (have hh0 := hown; go_loud (refine wpList_byte rfl _ _ rfl w1.heap.size _ (B) rfl (Own.alloc hown _) wr.heap.size 1 n0 rfl (by rw [HY0.out]; exact cells_new wr [.int .u8 ((z : Int) / 65536)] 5 0 _ rfl) (by first | omega | (simp only [List.length_append, List.length_singleton]; omega)) (by have := hb.size; simp; omega) ?_; intro vq0 wp0 ho0 hg0; have hc0 : wp0.heap[g]? = some (.cells cur 3 (0, 0)) := grown_block hg0 (alloc_block hcu) (Own.ne_block hown hcu (by decide)); have hb0q : Below w1.heap.size w1 wp0 := (hb.alloc hb.size (.cells #[.int .u8 ((z : Int) / 65536)] 5)).trans (Own.belowG (Own.alloc hown (.cells #[.int .u8 ((z : Int) / 65536)] 5)) (by have := hb.size; simp; omega) hg0); have hl0q : wp0.cell? ⟨g, q, none⟩ = some (.int .i64 (z : Int)) := (cell_of_row wp0 g q cur 3 _ hc0).trans (HCUR.out q z HZ.out); clear hg0 hown hb hcu hh0)))
            go_roundw
            case rel => exact ⟨q + 1, by omega, by go_num, by rw [HT.out, ← HL.out]; exact ho2, hc2, hb2q⟩
            case measure => simp [intOf]; omega
          · have hqn : q = n := by omega
            have HF : Hid (acc ++ (W.take q).flatMap enc3 = keyL 1 L x) := Lib.hid (by rw [HLV.out, List.take_of_length_le (by rw [← HN.out]; omega)])
            clear hlq
            subst hqn
            rw [HF.out] at hown
            go_wp2_with fail
            go_roundw
            case rel => exact ⟨1, by omega, by first | rfl | go_num, hown, hb⟩
            case measure => first | (simp [intOf]; done) | (simp [intOf]; omega)
      · have CW := Lib.hid (rweights_2 vx x wr (HX.out.over hb) (by omega))
        have HWB : Hid (∀ w ∈ wts El.s x ++ [0], w < 16777216 ∧ True) := Lib.hid (fun w hw => by
          rcases List.mem_append.1 hw with hw | hw
          · exact ⟨by have := (wts_bd HBD.out.s w hw).2; omega, trivial⟩
          · rw [List.mem_singleton.1 hw]; exact ⟨by omega, trivial⟩)
        have hwl := wts_len El.s x
        have HLV : Hid (keyL 2 L x = keyL 1 L x ++ (wts El.s x ++ [0]).flatMap enc2) := Lib.hid ((keyL_step L x).2.2.1.trans rfl)
        have hkl := keyL_len 1 L x
        obtain ⟨P, hP⟩ : ∃ P, P = wts El.s x := ⟨_, rfl⟩
        rw [← hP] at CW hwl HLV HWB
        obtain ⟨n, hn⟩ : ∃ n, n = (P ++ [0]).length := ⟨_, rfl⟩
        have hnl : n ≤ 8193 := by rw [hn, List.length_append, List.length_singleton]; omega
        have HN := Lib.hid hn
        obtain ⟨acc, hacc⟩ : ∃ a, a = keyL 1 L x := ⟨_, rfl⟩
        rw [← hacc] at HLV hkl hown
        have dlv : decide ((2 : Int) ≤ (M : Int)) = true := by simp; omega
        clear hP hn hacc
        go_wp2_with fail
        refine CW.out.mono ?_
        rintro e w2 ⟨v1, rfl, hO1, hb1⟩
        have hB1 := hown.over hb1
        have hz1' := hb1.size
        go_wp2_with (at_builtin; go_loud (refine wpList_push _ rfl _ _ 42 rfl wr.heap.size 3 i0 _ 1 8 Tryd.underlying42 hi hz0 hz1 hz2 rfl (by decide) encI_length encI_each _ P rfl (Own.alloc hO1 _) w2.heap.size 1 0 rfl (cells_new w2 (encI 0) 3) (by omega) (by omega) (by simp; omega) ?_; intro v2 w3 hO2 hg2; have hB2 := (hB1.alloc (.cells #[.int .i64 0] 3)).kept hg2 (Own.apart (hB1.alloc (.cells #[.int .i64 0] 3)) (Own.alloc hO1 _) (by decide)); have hb2 : Below wr.heap.size wr w3 := (hb1.alloc hz1' (.cells #[.int .i64 0] 3)).trans (Own.belowG (Own.alloc hO1 (.cells #[.int .i64 0] 3)) (by simp; omega) hg2); clear hg2 hO1 hB1 hb1; obtain ⟨g, cap, cur, rfl, hgb, hnc, hcm, hcur, htk⟩ := hO2.row (by simp); rw [← HN.out] at hnc ⊢))
        have HCUR : Hid (∀ k x : Nat, (P ++ [0])[k]? = some x → cur[k]? = some (.int .i64 (x : Int))) := Lib.hid (ints_cur htk)
        unfold maxLen at hcm
        have hbb : Below w1.heap.size w1 w3 := hb.trans (hb2.mono hbz)
        clear hO2 htk hb2
        obtain ⟨W, hW⟩ : ∃ W, W = P ++ [0] := ⟨_, rfl⟩
        rw [← hW] at HCUR HN HLV HWB
        clear hW hwl hcm
        go_loopw [6, 9] (fun bv iv wx => ∃ q : Nat, q ≤ n ∧ iv = .int .i64 q ∧ Own encB 1 5 wx w1.heap.size bv (acc ++ (W.take q).flatMap enc2) ∧ wx.heap[g]? = some (.cells cur 3 (0, 0)) ∧ Below w1.heap.size w1 wx) (fun _ iv _ => n - (intOf iv).toNat)
        case atStart => exact ⟨0, Nat.zero_le _, rfl, by rw [List.take_zero, List.flatMap_nil, List.append_nil]; exact hB2, hcur, hbb⟩
        case round =>
          obtain ⟨q, hq, rfl, hown, hcu, hb⟩ := hrel
          clear hB2 hcur hbb
          have hbz := hb.size
          by_cases hlq : q < n
          · have hlq' : (q : Int) < n := by omega
            obtain ⟨z, hz⟩ : ∃ z, W[q]? = some z := ⟨W[q]'(by rw [← HN.out]; exact hlq), by simp⟩
            have hcl : wr.cell? ⟨g, q, none⟩ = some (.int .i64 (z : Int)) := (cell_of_row wr g q cur 3 _ hcu).trans (HCUR.out q z hz)
            have HT : Hid (acc ++ (W.take (q + 1)).flatMap enc2 = acc ++ (W.take q).flatMap enc2 ++ enc2 z) := Lib.hid (by rw [take_flat hz, List.append_assoc])
            have hal : (acc ++ (W.take q).flatMap enc2).length ≤ 100000 := by
              rw [List.length_append, flat_len (n := 2) (fun _ => rfl), List.length_take]
              have : min q W.length ≤ n := by omega
              omega
            obtain ⟨B, hB⟩ : ∃ B, B = acc ++ (W.take q).flatMap enc2 := ⟨_, rfl⟩
            rw [← hB] at HT hal hown
            have HZ := Lib.hid hz
            have hzb : z < 16777216 := (HWB.out z (List.mem_of_getElem? hz)).1
            obtain ⟨y4, hy4⟩ : ∃ y, y = z % 256 := ⟨_, rfl⟩
            have f4 : (z : Int).tmod 256 = (y4 : Int) := by rw [Int.tmod_eq_emod_of_nonneg (by omega)]; omega
            have HY0 : Hid (((z / 256 % 256 : Nat) : Int) = (z : Int) / 256 % 256) := Lib.hid (by omega)
            obtain ⟨n0, hn0⟩ : ∃ y, y = z / 256 % 256 := ⟨_, rfl⟩
            rw [← hn0] at HY0
            have HY1 : Hid (((z % 256 : Nat) : Int) = (y4 : Int) % 256) := Lib.hid (by omega)
            obtain ⟨n1, hn1⟩ : ∃ y, y = z % 256 := ⟨_, rfl⟩
            rw [← hn1] at HY1
            clear hB hz hy4
            have eq1 : IntKind.i64.wrap ((q : Int) + 1) = (q : Int) + 1 := IntWalk.i64_in _ (by omega)
            have HL : Hid (B ++ [n0] ++ [n1] = B ++ enc2 z) := Lib.hid (by rw [hn0, hn1]; simp [enc2])
            clear hn0 hn1
            go_wp2_with (at_builtin; first
              | (have hh1 := ho0; go_loud (refine wpList_byte rfl _ _ rfl w1.heap.size _ (B ++ [n0]) rfl (Own.alloc ho0 _) wp0.heap.size 1 n1 rfl (by rw [HY1.out]; exact cells_new wp0 [.int .u8 ((y4 : Int) % 256)] 5 0 _ rfl) (by first | omega | (simp only [List.length_append, List.length_singleton]; omega)) (by have := hb0q.size; simp; omega) ?_; intro vq1 wp1 ho1 hg1; have hc1 : wp1.heap[g]? = some (.cells cur 3 (0, 0)) := grown_block hg1 (alloc_block hc0) (Own.ne_block ho0 hc0 (by decide)); have hb1q : Below w1.heap.size w1 wp1 := (hb0q.alloc hb0q.size (.cells #[.int .u8 ((y4 : Int) % 256)] 5)).trans (Own.belowG (Own.alloc ho0 (.cells #[.int .u8 ((y4 : Int) % 256)] 5)) (by have := hb0q.size; simp; omega) hg1); have hl1q : wp1.cell? ⟨g, q, none⟩ = some (.int .i64 (z : Int)) := (cell_of_row wp1 g q cur 3 _ hc1).trans (HCUR.out q z HZ.out); clear hg1 ho0 hb0q hc0 hh1))
              | (have hh0 := hown; go_loud (refine wpList_byte rfl _ _ rfl w1.heap.size _ (B) rfl (Own.alloc hown _) wr.heap.size 1 n0 rfl (by rw [HY0.out]; exact cells_new wr [.int .u8 ((z : Int) / 256 % 256)] 5 0 _ rfl) (by first | omega | (simp only [List.length_append, List.length_singleton]; omega)) (by have := hb.size; simp; omega) ?_; intro vq0 wp0 ho0 hg0; have hc0 : wp0.heap[g]? = some (.cells cur 3 (0, 0)) := grown_block hg0 (alloc_block hcu) (Own.ne_block hown hcu (by decide)); have hb0q : Below w1.heap.size w1 wp0 := (hb.alloc hb.size (.cells #[.int .u8 ((z : Int) / 256 % 256)] 5)).trans (Own.belowG (Own.alloc hown (.cells #[.int .u8 ((z : Int) / 256 % 256)] 5)) (by have := hb.size; simp; omega) hg0); have hl0q : wp0.cell? ⟨g, q, none⟩ = some (.int .i64 (z : Int)) := (cell_of_row wp0 g q cur 3 _ hc0).trans (HCUR.out q z HZ.out); clear hg0 hown hb hcu hh0)))
            go_roundw
            case rel => exact ⟨q + 1, by omega, by go_num, by rw [HT.out, ← HL.out]; exact ho1, hc1, hb1q⟩
            case measure => simp [intOf]; omega
          · have hqn : q = n := by omega
            have HF : Hid (acc ++ (W.take q).flatMap enc2 = keyL 2 L x) := Lib.hid (by rw [HLV.out, List.take_of_length_le (by rw [← HN.out]; omega)])
            clear hlq
            subst hqn
            rw [HF.out] at hown
            go_wp2_with fail
            go_roundw
            case rel => exact ⟨2, by omega, by first | rfl | go_num, hown, hb⟩
            case measure => first | (simp [intOf]; done) | (simp [intOf]; omega)
      · have CW := Lib.hid (rweights_3 vx x wr (HX.out.over hb) (by omega))
        have HWB : Hid (∀ w ∈ wts El.t x ++ [0], w < 16777216 ∧ True) := Lib.hid (fun w hw => by
          rcases List.mem_append.1 hw with hw | hw
          · exact ⟨by have := (wts_bd HBD.out.t w hw).2; omega, trivial⟩
          · rw [List.mem_singleton.1 hw]; exact ⟨by omega, trivial⟩)
        have hwl := wts_len El.t x
        have HLV : Hid (keyL 3 L x = keyL 2 L x ++ (wts El.t x ++ [0]).flatMap enc1) := Lib.hid ((keyL_step L x).2.2.2.1.trans rfl)
        have hkl := keyL_len 2 L x
        obtain ⟨P, hP⟩ : ∃ P, P = wts El.t x := ⟨_, rfl⟩
        rw [← hP] at CW hwl HLV HWB
        obtain ⟨n, hn⟩ : ∃ n, n = (P ++ [0]).length := ⟨_, rfl⟩
        have hnl : n ≤ 8193 := by rw [hn, List.length_append, List.length_singleton]; omega
        have HN := Lib.hid hn
        obtain ⟨acc, hacc⟩ : ∃ a, a = keyL 2 L x := ⟨_, rfl⟩
        rw [← hacc] at HLV hkl hown
        have dlv : decide ((3 : Int) ≤ (M : Int)) = true := by simp; omega
        clear hP hn hacc
        go_wp2_with fail
        refine CW.out.mono ?_
        rintro e w2 ⟨v1, rfl, hO1, hb1⟩
        have hB1 := hown.over hb1
        have hz1' := hb1.size
        go_wp2_with (at_builtin; go_loud (refine wpList_push _ rfl _ _ 42 rfl wr.heap.size 3 i0 _ 1 8 Tryd.underlying42 hi hz0 hz1 hz2 rfl (by decide) encI_length encI_each _ P rfl (Own.alloc hO1 _) w2.heap.size 1 0 rfl (cells_new w2 (encI 0) 3) (by omega) (by omega) (by simp; omega) ?_; intro v2 w3 hO2 hg2; have hB2 := (hB1.alloc (.cells #[.int .i64 0] 3)).kept hg2 (Own.apart (hB1.alloc (.cells #[.int .i64 0] 3)) (Own.alloc hO1 _) (by decide)); have hb2 : Below wr.heap.size wr w3 := (hb1.alloc hz1' (.cells #[.int .i64 0] 3)).trans (Own.belowG (Own.alloc hO1 (.cells #[.int .i64 0] 3)) (by simp; omega) hg2); clear hg2 hO1 hB1 hb1; obtain ⟨g, cap, cur, rfl, hgb, hnc, hcm, hcur, htk⟩ := hO2.row (by simp); rw [← HN.out] at hnc ⊢))
        have HCUR : Hid (∀ k x : Nat, (P ++ [0])[k]? = some x → cur[k]? = some (.int .i64 (x : Int))) := Lib.hid (ints_cur htk)
        unfold maxLen at hcm
        have hbb : Below w1.heap.size w1 w3 := hb.trans (hb2.mono hbz)
        clear hO2 htk hb2
        obtain ⟨W, hW⟩ : ∃ W, W = P ++ [0] := ⟨_, rfl⟩
        rw [← hW] at HCUR HN HLV HWB
        clear hW hwl hcm
        go_loopw [6, 9] (fun bv iv wx => ∃ q : Nat, q ≤ n ∧ iv = .int .i64 q ∧ Own encB 1 5 wx w1.heap.size bv (acc ++ (W.take q).flatMap enc1) ∧ wx.heap[g]? = some (.cells cur 3 (0, 0)) ∧ Below w1.heap.size w1 wx) (fun _ iv _ => n - (intOf iv).toNat)
        case atStart => exact ⟨0, Nat.zero_le _, rfl, by rw [List.take_zero, List.flatMap_nil, List.append_nil]; exact hB2, hcur, hbb⟩
        case round =>
          obtain ⟨q, hq, rfl, hown, hcu, hb⟩ := hrel
          clear hB2 hcur hbb
          have hbz := hb.size
          by_cases hlq : q < n
          · have hlq' : (q : Int) < n := by omega
            obtain ⟨z, hz⟩ : ∃ z, W[q]? = some z := ⟨W[q]'(by rw [← HN.out]; exact hlq), by simp⟩
            have hcl : wr.cell? ⟨g, q, none⟩ = some (.int .i64 (z : Int)) := (cell_of_row wr g q cur 3 _ hcu).trans (HCUR.out q z hz)
            have HT : Hid (acc ++ (W.take (q + 1)).flatMap enc1 = acc ++ (W.take q).flatMap enc1 ++ enc1 z) := Lib.hid (by rw [take_flat hz, List.append_assoc])
            have hal : (acc ++ (W.take q).flatMap enc1).length ≤ 100000 := by
              rw [List.length_append, flat_len (n := 1) (fun _ => rfl), List.length_take]
              have : min q W.length ≤ n := by omega
              omega
            obtain ⟨B, hB⟩ : ∃ B, B = acc ++ (W.take q).flatMap enc1 := ⟨_, rfl⟩
            rw [← hB] at HT hal hown
            have HZ := Lib.hid hz
            have hzb : z < 16777216 := (HWB.out z (List.mem_of_getElem? hz)).1
            obtain ⟨y4, hy4⟩ : ∃ y, y = z % 256 := ⟨_, rfl⟩
            have f4 : (z : Int).tmod 256 = (y4 : Int) := by rw [Int.tmod_eq_emod_of_nonneg (by omega)]; omega
            have HY0 : Hid (((z % 256 : Nat) : Int) = (y4 : Int) % 256) := Lib.hid (by omega)
            obtain ⟨n0, hn0⟩ : ∃ y, y = z % 256 := ⟨_, rfl⟩
            rw [← hn0] at HY0
            clear hB hz hy4
            have eq1 : IntKind.i64.wrap ((q : Int) + 1) = (q : Int) + 1 := IntWalk.i64_in _ (by omega)
            have HL : Hid (B ++ [n0] = B ++ enc1 z) := Lib.hid (by rw [hn0]; simp [enc1])
            clear hn0
            go_wp2_with (at_builtin; first
              | (have hh0 := hown; go_loud (refine wpList_byte rfl _ _ rfl w1.heap.size _ (B) rfl (Own.alloc hown _) wr.heap.size 1 n0 rfl (by rw [HY0.out]; exact cells_new wr [.int .u8 ((y4 : Int) % 256)] 5 0 _ rfl) (by first | omega | (simp only [List.length_append, List.length_singleton]; omega)) (by have := hb.size; simp; omega) ?_; intro vq0 wp0 ho0 hg0; have hc0 : wp0.heap[g]? = some (.cells cur 3 (0, 0)) := grown_block hg0 (alloc_block hcu) (Own.ne_block hown hcu (by decide)); have hb0q : Below w1.heap.size w1 wp0 := (hb.alloc hb.size (.cells #[.int .u8 ((y4 : Int) % 256)] 5)).trans (Own.belowG (Own.alloc hown (.cells #[.int .u8 ((y4 : Int) % 256)] 5)) (by have := hb.size; simp; omega) hg0); have hl0q : wp0.cell? ⟨g, q, none⟩ = some (.int .i64 (z : Int)) := (cell_of_row wp0 g q cur 3 _ hc0).trans (HCUR.out q z HZ.out); clear hg0 hown hb hcu hh0)))
            go_roundw
            case rel => exact ⟨q + 1, by omega, by go_num, by rw [HT.out, ← HL.out]; exact ho0, hc0, hb0q⟩
            case measure => simp [intOf]; omega
          · have hqn : q = n := by omega
            have HF : Hid (acc ++ (W.take q).flatMap enc1 = keyL 3 L x) := Lib.hid (by rw [HLV.out, List.take_of_length_le (by rw [← HN.out]; omega)])
            clear hlq
            subst hqn
            rw [HF.out] at hown
            go_wp2_with fail
            go_roundw
            case rel => exact ⟨3, by omega, by first | rfl | go_num, hown, hb⟩
            case measure => first | (simp [intOf]; done) | (simp [intOf]; omega)
    · have hjM : j = M := by omega
      have dlv : decide (((j + 1 : Nat) : Int) ≤ (M : Int)) = false := by simp; omega
      have dlv' : ¬ ((j : Int) + 1 ≤ (M : Int)) := by omega
      obtain ⟨t, ht, htb⟩ := conv_bytes hown (keyL_bytes HSL.out) (keyL_pos (by omega) _ _)
      have hbb : Below w.heap.size w wr := b1'.trans (hb.mono b1'.size)
      by_cases h4 : K = 4
      · have d4 : ((K : Int) == 4) = true := by simp; omega
        have HT : Hid (bytesN (t ++ s) = keyL 4 L x) := Lib.hid (by
          rw [bytesN_append, htb, ← HLE.out, (keyL_step L x).2.2.2.2, show j = 3 by have := HM.out; omega])
        have hts : t.size + s.size ≤ 9223372036854775807 := by
          have h1 : t.size = (keyL j L x).length := by rw [← bytesN_length, htb]
          have h2 := keyL_len j L x
          omega
        clear htb hown hlt
        go_wp2_with fail
        go_ret
        exact ⟨_, rfl, HT.out, hbb⟩
      · have d4 : ((K : Int) == 4) = false := by rw [beq_eq_false_iff_ne]; omega
        have HT : Hid (bytesN t = keyL K L x) := Lib.hid (by rw [htb, show j = K by have := HM.out; omega])
        clear htb hown hlt
        go_wp2_with fail
        go_ret
        exact ⟨_, rfl, HT.out, hbb⟩
end Go.Proofs.YtknnjnginmkblaaDoor
