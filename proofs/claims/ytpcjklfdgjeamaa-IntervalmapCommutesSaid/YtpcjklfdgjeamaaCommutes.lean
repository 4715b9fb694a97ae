/- Walk: IntervalmapCommutes. -/
import Derived.Test.YtpcjklfdgjeamaaC0
namespace Go.Proofs.Ytpcjklfdgjeamaa
open Go.RowKit

set_option maxRecDepth 100000 in
set_option maxHeartbeats 4000000 in
theorem commutes_any (v : Value) (P : PlayD) (a0 a1 a2 a3 : Nat) (x0 x1 : Int) (w : World) (h : IsPlay w v P) (h0 : a0 < 256) (h1 : a1 < 256) (h2 : a2 < 256) (h3 : a3 < 256) :
    Calls Try.prog 7 #[v, .agg #[.int .u8 a0, .int .u8 a1, .int .u8 a2, .int .u8 a3], .agg #[.int .i64 x0, .int .i64 x1]] w fun e w' => e = .returned (.bool true) ∧ Below w.heap.size w w' := by
  obtain ⟨sv, rfl, hpl, hps⟩ := id h
  obtain ⟨Ap, cp, rfl, hp1, hp2, hpz⟩ := hps
  clear hpz
  obtain ⟨W1, hW1⟩ : ∃ W1 : World, W1 = ((w.alloc (.cells #[.int .u8 P.len, .int .i64 P.val, .slice Ap P.ops.length cp] 35)).alloc (.cells #[.int .u8 a0, .int .u8 a1, .int .u8 a2, .int .u8 a3] 52)).alloc (.cells #[.int .i64 x0, .int .i64 x1] 45) := ⟨_, rfl⟩
  have bW : Below w.heap.size w W1 := by rw [hW1]; exact (((Below.refl _ _).alloc (Nat.le_refl _) _).alloc (by simp; try omega) _).alloc (by simp; try omega) _
  have c10 : W1.cell? ⟨w.heap.size + 1, 0, none⟩ = some (.int .u8 a0) := by rw [hW1]; exact cell_over (cells_at (w.alloc (.cells #[.int .u8 P.len, .int .i64 P.val, .slice Ap P.ops.length cp] 35)) [.int .u8 a0, .int .u8 a1, .int .u8 a2, .int .u8 a3] 52 (by simp) 0 _ rfl) ((Below.refl _ _).alloc (by simp) _)
  have c11 : W1.cell? ⟨w.heap.size + 1, 1, none⟩ = some (.int .u8 a1) := by rw [hW1]; exact cell_over (cells_at (w.alloc (.cells #[.int .u8 P.len, .int .i64 P.val, .slice Ap P.ops.length cp] 35)) [.int .u8 a0, .int .u8 a1, .int .u8 a2, .int .u8 a3] 52 (by simp) 1 _ rfl) ((Below.refl _ _).alloc (by simp) _)
  have c12 : W1.cell? ⟨w.heap.size + 1, 2, none⟩ = some (.int .u8 a2) := by rw [hW1]; exact cell_over (cells_at (w.alloc (.cells #[.int .u8 P.len, .int .i64 P.val, .slice Ap P.ops.length cp] 35)) [.int .u8 a0, .int .u8 a1, .int .u8 a2, .int .u8 a3] 52 (by simp) 2 _ rfl) ((Below.refl _ _).alloc (by simp) _)
  have c13 : W1.cell? ⟨w.heap.size + 1, 3, none⟩ = some (.int .u8 a3) := by rw [hW1]; exact cell_over (cells_at (w.alloc (.cells #[.int .u8 P.len, .int .i64 P.val, .slice Ap P.ops.length cp] 35)) [.int .u8 a0, .int .u8 a1, .int .u8 a2, .int .u8 a3] 52 (by simp) 3 _ rfl) ((Below.refl _ _).alloc (by simp) _)
  have c20 : W1.cell? ⟨w.heap.size + 2, 0, none⟩ = some (.int .i64 x0) := by rw [hW1]; exact cell_over (cells_at ((w.alloc (.cells #[.int .u8 P.len, .int .i64 P.val, .slice Ap P.ops.length cp] 35)).alloc (.cells #[.int .u8 a0, .int .u8 a1, .int .u8 a2, .int .u8 a3] 52)) [.int .i64 x0, .int .i64 x1] 45 (by simp) 0 _ rfl) (Below.refl _ _)
  have c21 : W1.cell? ⟨w.heap.size + 2, 1, none⟩ = some (.int .i64 x1) := by rw [hW1]; exact cell_over (cells_at ((w.alloc (.cells #[.int .u8 P.len, .int .i64 P.val, .slice Ap P.ops.length cp] 35)).alloc (.cells #[.int .u8 a0, .int .u8 a1, .int .u8 a2, .int .u8 a3] 52)) [.int .i64 x0, .int .i64 x1] 45 (by simp) 1 _ rfl) (Below.refl _ _)
  have hsz : w.heap.size + 2 < W1.heap.size := by rw [hW1]; simp; try omega
  have hpW := h.over bW
  have HW := Lib.hid hW1.symm
  clear hW1 h
  go_enter Try.func7, Try.ntmps7
  go_wp2_with fail
  rw [HW.out]
  refine (playw_any _ P W1 hpW).mono ?_
  rintro e v0 ⟨m, A, cA, l, rfl, hmW, hM0, hI0, hNI, hlb, bP⟩
  have k10 := cell_over c10 bP
  have k11 := cell_over c11 bP
  have k12 := cell_over c12 bP
  have k13 := cell_over c13 bP
  have k20 := cell_over c20 bP
  have k21 := cell_over c21 bP
  have bw := bW.trans (bP.mono bW.size)
  have hgem : w.heap.size ≤ m := by omega
  have hbm1 : w.heap.size + 1 ≠ m := by omega
  have hbm2 : w.heap.size + 2 ≠ m := by omega
  clear c10 c11 c12 c13 c20 c21 bP bW hNI hpW hsz hmW
  go_wp2_with fail
  refine (known_any v0).mono ?_
  rintro e v1 ⟨rfl, b1⟩
  have h2 := cell_over k10 b1
  have h3 := cell_over k11 b1
  have h4 := cell_over k12 b1
  have h5 := cell_over k13 b1
  have h6 := cell_over k20 b1
  have h7 := cell_over k21 b1
  have h8 := bw.trans (b1.mono bw.size)
  have h9 := hM0.below b1
  have h10 := hI0.over b1
  clear k10 k11 k12 k13 k20 k21 bw hM0 hI0 b1
  obtain ⟨n, hn⟩ : ∃ n, n = l.length := ⟨_, rfl⟩
  rw [← hn] at h10 hlb ⊢
  have HN := Lib.hid hn
  clear hn
  obtain ⟨q0, hq0⟩ : ∃ q, q = a0 % (n + 1) := ⟨_, rfl⟩
  have hq0l : q0 < n + 1 := by rw [hq0]; exact Nat.mod_lt _ (by omega)
  have hm0 : (a0 : Int) % ((n : Int) + 1) = (q0 : Int) := by rw [hq0]; exact (Int.natCast_emod _ _).symm
  obtain ⟨a, ha⟩ : ∃ y, y = q0 := ⟨_, rfl⟩
  have han : a ≤ n := by omega
  obtain ⟨q1, hq1⟩ : ∃ q, q = a1 % (n - a + 1) := ⟨_, rfl⟩
  have hq1l : q1 < n - a + 1 := by rw [hq1]; exact Nat.mod_lt _ (by omega)
  have hm1 : (a1 : Int) % ((n : Int) - (a : Int) + 1) = (q1 : Int) := by rw [hq1, show (n : Int) - (a : Int) + 1 = ((n - a + 1 : Nat) : Int) by omega]; exact (Int.natCast_emod _ _).symm
  obtain ⟨b, hb⟩ : ∃ y, y = a + q1 := ⟨_, rfl⟩
  have hbn : b ≤ n := by omega
  obtain ⟨q2, hq2⟩ : ∃ q, q = a2 % (n - b + 1) := ⟨_, rfl⟩
  have hq2l : q2 < n - b + 1 := by rw [hq2]; exact Nat.mod_lt _ (by omega)
  have hm2 : (a2 : Int) % ((n : Int) - (b : Int) + 1) = (q2 : Int) := by rw [hq2, show (n : Int) - (b : Int) + 1 = ((n - b + 1 : Nat) : Int) by omega]; exact (Int.natCast_emod _ _).symm
  obtain ⟨c, hc⟩ : ∃ y, y = b + q2 := ⟨_, rfl⟩
  have hcn : c ≤ n := by omega
  obtain ⟨q3, hq3⟩ : ∃ q, q = a3 % (n - c + 1) := ⟨_, rfl⟩
  have hq3l : q3 < n - c + 1 := by rw [hq3]; exact Nat.mod_lt _ (by omega)
  have hm3 : (a3 : Int) % ((n : Int) - (c : Int) + 1) = (q3 : Int) := by rw [hq3, show (n : Int) - (c : Int) + 1 = ((n - c + 1 : Nat) : Int) by omega]; exact (Int.natCast_emod _ _).symm
  obtain ⟨d, hd⟩ : ∃ y, y = c + q3 := ⟨_, rfl⟩
  have hdn : d ≤ n := by omega
  have hab : a ≤ b := by omega
  have hbc : b ≤ c := by omega
  have hcd : c ≤ d := by omega
  subst ha
  have hbI : (a : Int) + (q1 : Int) = (b : Int) := by omega
  have hcI : (b : Int) + (q2 : Int) = (c : Int) := by omega
  have hdI : (c : Int) + (q3 : Int) = (d : Int) := by omega
  clear hq0 hq1 hq2 hq3 hq0l hq1l hq2l hq3l hb hc hd
  have HNL := HN.out
  have HS1 : Hid ((setN l a b x0).length = n) := Lib.hid (by rw [setN_length _ _ _ _ hab (by omega)]; omega)
  have HS2 : Hid ((setN l c d x1).length = n) := Lib.hid (by rw [setN_length _ _ _ _ hcd (by omega)]; omega)
  have HCM : Hid (setN (setN l a b x0) c d x1 = setN (setN l c d x1) a b x0) := Lib.hid (setN_comm l a b c d x0 x1 hab hbc hcd (by omega))
  have HS3 : Hid ((setN (setN l c d x1) a b x0).length = n) := Lib.hid (by rw [setN_length _ _ _ _ hab (by rw [HS2.out]; omega)]; exact HS2.out)
  have HTW : Hid (setN (setN (setN l c d x1) a b x0) a b x0 = setN (setN l c d x1) a b x0) := Lib.hid (setN_twice _ _ _ _ hab (by rw [HS2.out]; omega))
  have HLB : Hid (l.length ≤ 1000) := Lib.hid (by omega)
  clear HNL
  go_wp2_with fail
  rw [hm0]
  go_wp2_with fail
  refine (clonew_any m _ v1 h9 (by have := HLB.out; omega)).mono ?_
  rintro e v2 ⟨x, rfl, hvx, hMx, b11⟩
  have h12 := cell_over h2 b11
  have h13 := cell_over h3 b11
  have h14 := cell_over h4 b11
  have h15 := cell_over h5 b11
  have h16 := cell_over h6 b11
  have h17 := cell_over h7 b11
  have h18 := h8.trans (b11.mono h8.size)
  have h19 := h9.below b11
  have h20 := h10.over b11
  have hnxm : x ≠ m := by have := h9.lt; omega
  have hgex : w.heap.size ≤ x := by have := h8.size; omega
  have hbx1 : w.heap.size + 1 ≠ x := by have := h8.size; have := World.block_lt_of_cell? _ _ h2; simp at this; omega
  have hbx2 : w.heap.size + 2 ≠ x := by have := h8.size; have := World.block_lt_of_cell? _ _ h6; simp at this; omega
  clear h2 h3 h4 h5 h6 h7 h8 h9 h10 b11
  clear hvx
  go_wp2_with fail
  refine (clonew_any m _ v2 h19 (by have := HLB.out; omega)).mono ?_
  rintro e v3 ⟨y, rfl, hvy, hMy, b21⟩
  have h22 := cell_over h12 b21
  have h23 := cell_over h13 b21
  have h24 := cell_over h14 b21
  have h25 := cell_over h15 b21
  have h26 := cell_over h16 b21
  have h27 := cell_over h17 b21
  have h28 := h18.trans (b21.mono h18.size)
  have h29 := h19.below b21
  have h30 := h20.over b21
  have h31 := hMx.below b21
  have hnym : y ≠ m := by have := h19.lt; omega
  have hnyx : y ≠ x := by have := hMx.lt; omega
  have hgey : w.heap.size ≤ y := by have := h18.size; omega
  have hby1 : w.heap.size + 1 ≠ y := by have := h18.size; have := World.block_lt_of_cell? _ _ h12; simp at this; omega
  have hby2 : w.heap.size + 2 ≠ y := by have := h18.size; have := World.block_lt_of_cell? _ _ h16; simp at this; omega
  clear h12 h13 h14 h15 h16 h17 h18 h19 h20 hMx b21
  clear hvy
  go_wp2_with fail
  refine (setw_any x (l) a b x0 v3 h31 (by have := HLB.out; omega) hab (by have := HN.out; omega)).mono ?_
  rintro e v4 ⟨rfl, g32, h33⟩
  have h34 := g32.cell h22 (by intro h; injection h with h; exact hbx1 h)
  have h35 := g32.cell h23 (by intro h; injection h with h; exact hbx1 h)
  have h36 := g32.cell h24 (by intro h; injection h with h; exact hbx1 h)
  have h37 := g32.cell h25 (by intro h; injection h with h; exact hbx1 h)
  have h38 := g32.cell h26 (by intro h; injection h with h; exact hbx2 h)
  have h39 := g32.cell h27 (by intro h; injection h with h; exact hbx2 h)
  have h40 := h28.grown g32 h28.size (fun q hq => by injection hq with hq; rw [← hq]; exact hgex)
  have h41 := h29.besides h31 g32 (Ne.symm hnxm)
  have h42 := h30.besides encI_int h31 g32
  have h43 := hMy.besides h31 g32 hnyx
  clear h22 h23 h24 h25 h26 h27 h28 h29 h30 h31 hMy g32
  go_wp2_with fail
  refine (setw_any x (setN l a b x0) c d x1 v4 h33 (by have := HS1.out; omega) hcd (by have := HS1.out; omega)).mono ?_
  rintro e v5 ⟨rfl, g44, h45⟩
  have h46 := g44.cell h34 (by intro h; injection h with h; exact hbx1 h)
  have h47 := g44.cell h35 (by intro h; injection h with h; exact hbx1 h)
  have h48 := g44.cell h36 (by intro h; injection h with h; exact hbx1 h)
  have h49 := g44.cell h37 (by intro h; injection h with h; exact hbx1 h)
  have h50 := g44.cell h38 (by intro h; injection h with h; exact hbx2 h)
  have h51 := g44.cell h39 (by intro h; injection h with h; exact hbx2 h)
  have h52 := h40.grown g44 h40.size (fun q hq => by injection hq with hq; rw [← hq]; exact hgex)
  have h53 := h41.besides h33 g44 (Ne.symm hnxm)
  have h54 := h42.besides encI_int h33 g44
  have h55 := h43.besides h33 g44 hnyx
  clear h34 h35 h36 h37 h38 h39 h40 h41 h42 h33 h43 g44
  go_wp2_with fail
  refine (setw_any y (l) c d x1 v5 h55 (by have := HLB.out; omega) hcd (by have := HN.out; omega)).mono ?_
  rintro e v6 ⟨rfl, g56, h57⟩
  have h58 := g56.cell h46 (by intro h; injection h with h; exact hby1 h)
  have h59 := g56.cell h47 (by intro h; injection h with h; exact hby1 h)
  have h60 := g56.cell h48 (by intro h; injection h with h; exact hby1 h)
  have h61 := g56.cell h49 (by intro h; injection h with h; exact hby1 h)
  have h62 := g56.cell h50 (by intro h; injection h with h; exact hby2 h)
  have h63 := g56.cell h51 (by intro h; injection h with h; exact hby2 h)
  have h64 := h52.grown g56 h52.size (fun q hq => by injection hq with hq; rw [← hq]; exact hgey)
  have h65 := h53.besides h55 g56 (Ne.symm hnym)
  have h66 := h54.besides encI_int h55 g56
  have h67 := h45.besides h55 g56 (Ne.symm hnyx)
  clear h46 h47 h48 h49 h50 h51 h52 h53 h54 h45 h55 g56
  go_wp2_with fail
  refine (setw_any y (setN l c d x1) a b x0 v6 h57 (by have := HS2.out; omega) hab (by have := HS2.out; omega)).mono ?_
  rintro e v7 ⟨rfl, g68, h69⟩
  have h70 := g68.cell h58 (by intro h; injection h with h; exact hby1 h)
  have h71 := g68.cell h59 (by intro h; injection h with h; exact hby1 h)
  have h72 := g68.cell h60 (by intro h; injection h with h; exact hby1 h)
  have h73 := g68.cell h61 (by intro h; injection h with h; exact hby1 h)
  have h74 := g68.cell h62 (by intro h; injection h with h; exact hby2 h)
  have h75 := g68.cell h63 (by intro h; injection h with h; exact hby2 h)
  have h76 := h64.grown g68 h64.size (fun q hq => by injection hq with hq; rw [← hq]; exact hgey)
  have h77 := h65.besides h57 g68 (Ne.symm hnym)
  have h78 := h66.besides encI_int h57 g68
  have h79 := h67.besides h57 g68 (Ne.symm hnyx)
  clear h58 h59 h60 h61 h62 h63 h64 h65 h66 h67 h57 g68
  rw [HCM.out] at h79
  go_wp2_with fail
  refine (equalw_any x y _ v7 h79 h69).mono ?_
  rintro e v8 ⟨rfl, b80⟩
  have h81 := cell_over h70 b80
  have h82 := cell_over h71 b80
  have h83 := cell_over h72 b80
  have h84 := cell_over h73 b80
  have h85 := cell_over h74 b80
  have h86 := cell_over h75 b80
  have h87 := h76.trans (b80.mono h76.size)
  have h88 := h77.below b80
  have h89 := h78.over b80
  have h90 := h79.below b80
  have h91 := h69.below b80
  clear h70 h71 h72 h73 h74 h75 h76 h77 h78 h79 h69 b80
  go_wp2_with fail
  refine (is_any m _ l v8 h88 h89 (by have := HLB.out; omega)).mono ?_
  rintro e v9 ⟨rfl, b92⟩
  have h93 := cell_over h81 b92
  have h94 := cell_over h82 b92
  have h95 := cell_over h83 b92
  have h96 := cell_over h84 b92
  have h97 := cell_over h85 b92
  have h98 := cell_over h86 b92
  have h99 := h87.trans (b92.mono h87.size)
  have h100 := h88.below b92
  have h101 := h89.over b92
  have h102 := h90.below b92
  have h103 := h91.below b92
  clear h81 h82 h83 h84 h85 h86 h87 h88 h89 h90 h91 b92
  go_wp2_with fail
  refine (setw_any y (setN (setN l c d x1) a b x0) a b x0 v9 h103 (by have := HS3.out; omega) hab (by have := HS3.out; omega)).mono ?_
  rintro e v10 ⟨rfl, g104, h105⟩
  have h106 := g104.cell h93 (by intro h; injection h with h; exact hby1 h)
  have h107 := g104.cell h94 (by intro h; injection h with h; exact hby1 h)
  have h108 := g104.cell h95 (by intro h; injection h with h; exact hby1 h)
  have h109 := g104.cell h96 (by intro h; injection h with h; exact hby1 h)
  have h110 := g104.cell h97 (by intro h; injection h with h; exact hby2 h)
  have h111 := g104.cell h98 (by intro h; injection h with h; exact hby2 h)
  have h112 := h99.grown g104 h99.size (fun q hq => by injection hq with hq; rw [← hq]; exact hgey)
  have h113 := h100.besides h103 g104 (Ne.symm hnym)
  have h114 := h101.besides encI_int h103 g104
  have h115 := h102.besides h103 g104 (Ne.symm hnyx)
  clear h93 h94 h95 h96 h97 h98 h99 h100 h101 h102 h103 g104
  rw [HTW.out] at h105
  go_wp2_with fail
  refine (equalw_any y x _ v10 h105 h115).mono ?_
  rintro e v11 ⟨rfl, b116⟩
  have h117 := cell_over h106 b116
  have h118 := cell_over h107 b116
  have h119 := cell_over h108 b116
  have h120 := cell_over h109 b116
  have h121 := cell_over h110 b116
  have h122 := cell_over h111 b116
  have h123 := h112.trans (b116.mono h112.size)
  have h124 := h113.below b116
  have h125 := h114.over b116
  have h126 := h115.below b116
  have h127 := h105.below b116
  clear h106 h107 h108 h109 h110 h111 h112 h113 h114 h115 h105 b116
  go_wp2_with fail
  refine (equalw_any x y _ v11 h126 h127).mono ?_
  rintro e v12 ⟨rfl, b128⟩
  have h129 := cell_over h117 b128
  have h130 := cell_over h118 b128
  have h131 := cell_over h119 b128
  have h132 := cell_over h120 b128
  have h133 := cell_over h121 b128
  have h134 := cell_over h122 b128
  have h135 := h123.trans (b128.mono h123.size)
  have h136 := h124.below b128
  have h137 := h125.over b128
  have h138 := h126.below b128
  have h139 := h127.below b128
  clear h117 h118 h119 h120 h121 h122 h123 h124 h125 h126 h127 b128
  go_wp2
  go_ret
  exact ⟨rfl, h135⟩
end Go.Proofs.Ytpcjklfdgjeamaa
