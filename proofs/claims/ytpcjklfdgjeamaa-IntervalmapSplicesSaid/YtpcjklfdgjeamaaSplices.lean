/- Walk: IntervalmapSplices. -/
import Derived.Test.YtpcjklfdgjeamaaC0
namespace Go.Proofs.Ytpcjklfdgjeamaa
open Go.RowKit

set_option maxRecDepth 100000 in
set_option maxHeartbeats 4000000 in
theorem splices_any (v : Value) (P : PlayD) (a0 a1 : Nat) (vv : Int) (w : World) (h : IsPlay w v P) (h0 : a0 < 256) (h1 : a1 < 256) :
    Calls Try.prog 8 #[v, .agg #[.int .u8 a0, .int .u8 a1], .int .i64 vv] w fun e w' => e = .returned (.bool true) ∧ Below w.heap.size w w' := by
  obtain ⟨sv, rfl, hpl, hps⟩ := id h
  obtain ⟨Ap, cp, rfl, hp1, hp2, hpz⟩ := hps
  clear hpz
  obtain ⟨W1, hW1⟩ : ∃ W1 : World, W1 = (w.alloc (.cells #[.int .u8 P.len, .int .i64 P.val, .slice Ap P.ops.length cp] 35)).alloc (.cells #[.int .u8 a0, .int .u8 a1] 58) := ⟨_, rfl⟩
  have bW : Below w.heap.size w W1 := by rw [hW1]; exact ((Below.refl _ _).alloc (Nat.le_refl _) _).alloc (by simp; try omega) _
  have c10 : W1.cell? ⟨w.heap.size + 1, 0, none⟩ = some (.int .u8 a0) := by rw [hW1]; exact cell_over (cells_at (w.alloc (.cells #[.int .u8 P.len, .int .i64 P.val, .slice Ap P.ops.length cp] 35)) [.int .u8 a0, .int .u8 a1] 58 (by simp) 0 _ rfl) (Below.refl _ _)
  have c11 : W1.cell? ⟨w.heap.size + 1, 1, none⟩ = some (.int .u8 a1) := by rw [hW1]; exact cell_over (cells_at (w.alloc (.cells #[.int .u8 P.len, .int .i64 P.val, .slice Ap P.ops.length cp] 35)) [.int .u8 a0, .int .u8 a1] 58 (by simp) 1 _ rfl) (Below.refl _ _)
  have hsz : w.heap.size + 1 < W1.heap.size := by rw [hW1]; simp; try omega
  have hpW := h.over bW
  have HW := Lib.hid hW1.symm
  clear hW1 h
  go_enter Try.func8, Try.ntmps8
  go_wp2_with fail
  rw [HW.out]
  refine (playw_any _ P W1 hpW).mono ?_
  rintro e v0 ⟨m, A, cA, l, rfl, hmW, hM0, hI0, hNI, hlb, bP⟩
  have k10 := cell_over c10 bP
  have k11 := cell_over c11 bP
  have bw := bW.trans (bP.mono bW.size)
  have hgem : w.heap.size ≤ m := by omega
  have hbm1 : w.heap.size + 1 ≠ m := by omega
  clear c10 c11 bP bW hNI hpW hsz hmW
  go_wp2_with fail
  refine (known_any v0).mono ?_
  rintro e v1 ⟨rfl, b1⟩
  have h2 := cell_over k10 b1
  have h3 := cell_over k11 b1
  have h4 := bw.trans (b1.mono bw.size)
  have h5 := hM0.below b1
  have h6 := hI0.over b1
  clear k10 k11 bw hM0 hI0 b1
  obtain ⟨n, hn⟩ : ∃ n, n = l.length := ⟨_, rfl⟩
  rw [← hn] at h6 hlb ⊢
  have HN := Lib.hid hn
  clear hn
  obtain ⟨a, ha⟩ : ∃ q, q = a0 % (n + 1) := ⟨_, rfl⟩
  have hal : a < n + 1 := by rw [ha]; exact Nat.mod_lt _ (by omega)
  have hm0 : (a0 : Int) % ((n : Int) + 1) = (a : Int) := by rw [ha]; exact (Int.natCast_emod _ _).symm
  obtain ⟨q1, hq1⟩ : ∃ q, q = a1 % (n - a + 1) := ⟨_, rfl⟩
  have hq1l : q1 < n - a + 1 := by rw [hq1]; exact Nat.mod_lt _ (by omega)
  have hm1 : (a1 : Int) % ((n : Int) - (a : Int) + 1) = (q1 : Int) := by rw [hq1, show (n : Int) - (a : Int) + 1 = ((n - a + 1 : Nat) : Int) by omega]; exact (Int.natCast_emod _ _).symm
  obtain ⟨b, hb⟩ : ∃ y, y = a + q1 := ⟨_, rfl⟩
  have hbI : (a : Int) + (q1 : Int) = (b : Int) := by omega
  have hbaI : (b : Int) - (a : Int) = (q1 : Int) := by omega
  have han : a ≤ n := by omega
  have hbn : b ≤ n := by omega
  have hab : a ≤ b := by omega
  have HLB : Hid (l.length ≤ 1000) := Lib.hid (by have := HN.out; omega)
  have HX : Hid (spliceL l (a : Int).toNat ((a : Int) + (q1 : Int)).toNat (List.replicate (q1 : Int).toNat vv) = setN l a b vv) := Lib.hid (by rw [hbI, Int.toNat_natCast, Int.toNat_natCast, Int.toNat_natCast, setN, show b - a = q1 by omega])
  have HZ1 : Hid (spliceL l (a : Int).toNat ((a : Int) + 0).toNat (List.replicate (5 : Int).toNat vv) = spliceL l a a (List.replicate 5 vv)) := Lib.hid (by rw [Int.add_zero, Int.toNat_natCast]; rfl)
  have HZ2 : Hid (spliceL (spliceL l a a (List.replicate 5 vv)) (a : Int).toNat ((a : Int) + 5).toNat (List.replicate (0 : Int).toNat 0) = l) := Lib.hid (by rw [show ((a : Int) + 5).toNat = a + 5 by omega, Int.toNat_natCast]; exact splice_back l a vv 0 (by have := HN.out; omega))
  have HZL : Hid ((spliceL l a a (List.replicate 5 vv)).length = n + 5) := Lib.hid (by have := HN.out; simp [spliceL]; omega)
  clear ha hq1 hb hq1l hal
  go_wp2_with fail
  rw [hm0]
  go_wp2_with fail
  refine (clonew_any m _ v1 h5 (by have := HLB.out; omega)).mono ?_
  rintro e v2 ⟨x, rfl, hvx, hMx, b7⟩
  have h8 := cell_over h2 b7
  have h9 := cell_over h3 b7
  have h10 := h4.trans (b7.mono h4.size)
  have h11 := h5.below b7
  have h12 := h6.over b7
  have hnxm : x ≠ m := by have := h5.lt; omega
  have hgex : w.heap.size ≤ x := by have := h4.size; omega
  have hbx1 : w.heap.size + 1 ≠ x := by have := h4.size; have := World.block_lt_of_cell? _ _ h2; simp at this; omega
  clear h2 h3 h4 h5 h6 b7
  clear hvx
  go_wp2_with fail
  refine (clonew_any m _ v2 h11 (by have := HLB.out; omega)).mono ?_
  rintro e v3 ⟨y, rfl, hvy, hMy, b13⟩
  have h14 := cell_over h8 b13
  have h15 := cell_over h9 b13
  have h16 := h10.trans (b13.mono h10.size)
  have h17 := h11.below b13
  have h18 := h12.over b13
  have h19 := hMx.below b13
  have hnym : y ≠ m := by have := h11.lt; omega
  have hnyx : y ≠ x := by have := hMx.lt; omega
  have hgey : w.heap.size ≤ y := by have := h10.size; omega
  have hby1 : w.heap.size + 1 ≠ y := by have := h10.size; have := World.block_lt_of_cell? _ _ h8; simp at this; omega
  clear h8 h9 h10 h11 h12 hMx b13
  clear hvy
  go_wp2_with fail
  refine (splice0_any x l _ a q1 q1 vv v3 h19 (by have := HLB.out; omega) (by have := HN.out; rw [spliceE, if_neg (by omega), if_neg (by omega)]) HX.out).mono ?_
  rintro e v4 ⟨rfl, g20, h21⟩
  have h22 := g20.cell h14 (by intro h; injection h with h; exact hbx1 h)
  have h23 := g20.cell h15 (by intro h; injection h with h; exact hbx1 h)
  have h24 := h16.grown g20 h16.size (fun q hq => by injection hq with hq; rw [← hq]; exact hgex)
  have h25 := h17.besides h19 g20 (Ne.symm hnxm)
  have h26 := h18.besides encI_int h19 g20
  have h27 := hMy.besides h19 g20 hnyx
  clear h14 h15 h16 h17 h18 h19 hMy g20
  go_wp2_with fail
  refine (setw_any y l a b vv v4 h27 (by have := HLB.out; omega) hab (by have := HN.out; omega)).mono ?_
  rintro e v5 ⟨rfl, g28, h29⟩
  have h30 := g28.cell h22 (by intro h; injection h with h; exact hby1 h)
  have h31 := g28.cell h23 (by intro h; injection h with h; exact hby1 h)
  have h32 := h24.grown g28 h24.size (fun q hq => by injection hq with hq; rw [← hq]; exact hgey)
  have h33 := h25.besides h27 g28 (Ne.symm hnym)
  have h34 := h26.besides encI_int h27 g28
  have h35 := h21.besides h27 g28 (Ne.symm hnyx)
  clear h22 h23 h24 h25 h26 h21 h27 g28
  go_wp2_with fail
  refine (equalw_any x y _ v5 h35 h29).mono ?_
  rintro e v6 ⟨rfl, b36⟩
  have h37 := cell_over h30 b36
  have h38 := cell_over h31 b36
  have h39 := h32.trans (b36.mono h32.size)
  have h40 := h33.below b36
  have h41 := h34.over b36
  have h42 := h35.below b36
  have h43 := h29.below b36
  clear h30 h31 h32 h33 h34 h35 h29 b36
  go_wp2_with fail
  refine (clonew_any m _ v6 h40 (by have := HLB.out; omega)).mono ?_
  rintro e v7 ⟨z, rfl, hvz, hMz, b44⟩
  have h45 := cell_over h37 b44
  have h46 := cell_over h38 b44
  have h47 := h39.trans (b44.mono h39.size)
  have h48 := h40.below b44
  have h49 := h41.over b44
  have hnzm : z ≠ m := by have := h40.lt; omega
  have hgez : w.heap.size ≤ z := by have := h39.size; omega
  have hbz1 : w.heap.size + 1 ≠ z := by have := h39.size; have := World.block_lt_of_cell? _ _ h37; simp at this; omega
  clear h37 h38 h39 h40 h41 b44
  clear hvz
  go_wp2_with fail
  refine (splice0_any z l _ a 0 5 vv v7 hMz (by have := HLB.out; omega) (by have := HN.out; rw [spliceE, if_neg (by omega), if_neg (by omega)]) HZ1.out).mono ?_
  rintro e v8 ⟨rfl, g50, h51⟩
  have h52 := g50.cell h45 (by intro h; injection h with h; exact hbz1 h)
  have h53 := g50.cell h46 (by intro h; injection h with h; exact hbz1 h)
  have h54 := h47.grown g50 h47.size (fun q hq => by injection hq with hq; rw [← hq]; exact hgez)
  have h55 := h48.besides hMz g50 (Ne.symm hnzm)
  have h56 := h49.besides encI_int hMz g50
  clear h45 h46 h47 h48 h49 hMz g50
  go_wp2_with fail
  refine (splice0_any z _ l a 5 0 0 v8 h51 (by have := HZL.out; omega) (by have := HZL.out; rw [spliceE, if_neg (by omega), if_neg (by omega)]) HZ2.out).mono ?_
  rintro e v9 ⟨rfl, g57, h58⟩
  have h59 := g57.cell h52 (by intro h; injection h with h; exact hbz1 h)
  have h60 := g57.cell h53 (by intro h; injection h with h; exact hbz1 h)
  have h61 := h54.grown g57 h54.size (fun q hq => by injection hq with hq; rw [← hq]; exact hgez)
  have h62 := h55.besides h51 g57 (Ne.symm hnzm)
  have h63 := h56.besides encI_int h51 g57
  clear h52 h53 h54 h55 h56 h51 g57
  go_wp2_with fail
  refine (equalw_any z m _ v9 h58 h62).mono ?_
  rintro e v10 ⟨rfl, b64⟩
  have h65 := cell_over h59 b64
  have h66 := cell_over h60 b64
  have h67 := h61.trans (b64.mono h61.size)
  have h68 := h62.below b64
  have h69 := h63.over b64
  have h70 := h58.below b64
  clear h59 h60 h61 h62 h63 h58 b64
  go_wp2_with fail
  refine (splicee_any z l (-1) 0 1 vv 2 v10 h70 (by have := HLB.out; omega) (by rw [spliceE, if_pos (by omega)]) (by omega)).mono ?_
  rintro e v11 ⟨rfl, g71, h72⟩
  have h73 := g71.cell h65 (by intro h; injection h with h; exact hbz1 h)
  have h74 := g71.cell h66 (by intro h; injection h with h; exact hbz1 h)
  have h75 := h67.grown g71 h67.size (fun q hq => by injection hq with hq; rw [← hq]; exact hgez)
  have h76 := h68.besides h70 g71 (Ne.symm hnzm)
  have h77 := h69.besides encI_int h70 g71
  clear h65 h66 h67 h68 h69 h70 g71
  go_wp2_with fail
  refine (splicee_any z l 0 (-1) 1 vv 2 v11 h72 (by have := HLB.out; omega) (by rw [spliceE, if_pos (by omega)]) (by omega)).mono ?_
  rintro e v12 ⟨rfl, g78, h79⟩
  have h80 := g78.cell h73 (by intro h; injection h with h; exact hbz1 h)
  have h81 := g78.cell h74 (by intro h; injection h with h; exact hbz1 h)
  have h82 := h75.grown g78 h75.size (fun q hq => by injection hq with hq; rw [← hq]; exact hgez)
  have h83 := h76.besides h72 g78 (Ne.symm hnzm)
  have h84 := h77.besides encI_int h72 g78
  clear h73 h74 h75 h76 h77 h72 g78
  go_wp2_with fail
  refine (splicee_any z l 0 0 (-1) vv 2 v12 h79 (by have := HLB.out; omega) (by rw [spliceE, if_pos (by omega)]) (by omega)).mono ?_
  rintro e v13 ⟨rfl, g85, h86⟩
  have h87 := g85.cell h80 (by intro h; injection h with h; exact hbz1 h)
  have h88 := g85.cell h81 (by intro h; injection h with h; exact hbz1 h)
  have h89 := h82.grown g85 h82.size (fun q hq => by injection hq with hq; rw [← hq]; exact hgez)
  have h90 := h83.besides h79 g85 (Ne.symm hnzm)
  have h91 := h84.besides encI_int h79 g85
  clear h80 h81 h82 h83 h84 h79 g85
  go_wp2_with fail
  refine (splicee_any z l a ((n : Int) - (a : Int) + 1) 1 vv 2 v13 h86 (by have := HLB.out; omega) (by have := HN.out; rw [spliceE, if_pos (by omega)]) (by omega)).mono ?_
  rintro e v14 ⟨rfl, g92, h93⟩
  have h94 := g92.cell h87 (by intro h; injection h with h; exact hbz1 h)
  have h95 := g92.cell h88 (by intro h; injection h with h; exact hbz1 h)
  have h96 := h89.grown g92 h89.size (fun q hq => by injection hq with hq; rw [← hq]; exact hgez)
  have h97 := h90.besides h86 g92 (Ne.symm hnzm)
  have h98 := h91.besides encI_int h86 g92
  clear h87 h88 h89 h90 h91 h86 g92
  go_wp2_with fail
  refine (splicee_any z l a 0 1048577 vv 9 v14 h93 (by have := HLB.out; omega) (by have := HN.out; rw [spliceE, if_neg (by omega), if_pos (by omega)]) (by omega)).mono ?_
  rintro e v15 ⟨rfl, g99, h100⟩
  have h101 := g99.cell h94 (by intro h; injection h with h; exact hbz1 h)
  have h102 := g99.cell h95 (by intro h; injection h with h; exact hbz1 h)
  have h103 := h96.grown g99 h96.size (fun q hq => by injection hq with hq; rw [← hq]; exact hgez)
  have h104 := h97.besides h93 g99 (Ne.symm hnzm)
  have h105 := h98.besides encI_int h93 g99
  clear h94 h95 h96 h97 h98 h93 g99
  go_wp2_with fail
  refine (equalw_any z m _ v15 h100 h104).mono ?_
  rintro e v16 ⟨rfl, b106⟩
  have h107 := cell_over h101 b106
  have h108 := cell_over h102 b106
  have h109 := h103.trans (b106.mono h103.size)
  have h110 := h104.below b106
  have h111 := h105.over b106
  have h112 := h100.below b106
  clear h101 h102 h103 h104 h105 h100 b106
  go_wp2
  go_ret
  exact ⟨rfl, h109⟩
end Go.Proofs.Ytpcjklfdgjeamaa
