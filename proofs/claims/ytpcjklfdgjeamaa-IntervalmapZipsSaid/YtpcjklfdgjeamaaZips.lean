/- Walk: IntervalmapZips. -/
import Derived.Test.YtpcjklfdgjeamaaC0
import Derived.Test.YtpcjklfdgjeamaaZ2
namespace Go.Proofs.Ytpcjklfdgjeamaa
open Go.RowKit

def PairAt (w : World) (B : Nat) (A : Option Addr) (l : List Pr) : Prop :=
  ∀ k (hk : k < l.length), ∃ b o, A = some ⟨b, o, none⟩ ∧ b < B ∧ w.cell? ⟨b, o + k * 4, none⟩ = some (.int .i64 l[k].1) ∧ w.cell? ⟨b, o + k * 4 + 1, none⟩ = some (.int .i64 l[k].2.1) ∧ w.cell? ⟨b, o + k * 4 + 2, none⟩ = some (.int .i64 l[k].2.2.1) ∧ w.cell? ⟨b, o + k * 4 + 3, none⟩ = some (.int .i64 l[k].2.2.2)
theorem Sl.pairs {w : World} {B : Nat} {v : Value} {l : List Pr} (h : Sl encP 4 w B v l) : ∃ A c, v = .slice A l.length c ∧ l.length ≤ c ∧ c ≤ 9223372036854775807 ∧ PairAt w B A l := by
  obtain ⟨A, c, rfl, h1, h2, h3⟩ := h
  refine ⟨A, c, rfl, h1, h2, fun k hk => ?_⟩
  obtain ⟨b, o, rfl, hb, hc⟩ := h3 (by omega)
  have e0 := hc k l[k] (by simp) 0 _ rfl
  have e1 := hc k l[k] (by simp) 1 _ rfl
  have e2 := hc k l[k] (by simp) 2 _ rfl
  have e3 := hc k l[k] (by simp) 3 _ rfl
  exact ⟨b, o, rfl, hb, e0, e1, e2, e3⟩
theorem zipF_length : ∀ (Z : List IP) (o : List Pr) (q : Int), (zipF Z o q).length ≤ o.length + Z.length
  | [], o, q => by simp [zipF]
  | v :: Z, o, q => by
    have h1 := zipF_length Z (addP o 1 v q) (q + 1)
    have h2 := addP_length o 1 v q
    rw [zipF, List.length_cons]
    omega
theorem pairs_length (l k : List Int) : (pairsOf l k).length ≤ l.length := by
  have := zipF_length (l.zip k) [] 0
  rw [List.length_zip] at this
  unfold pairsOf
  simp at this ⊢
  omega

/-- The first i elements agree. -/
def agree (l k : List Int) (i : Nat) : Bool := decide (l.take i = k.take i)
theorem agree_zero (l k : List Int) : agree l k 0 = true := by simp [agree]
theorem agree_all (l k : List Int) (h : l.length = k.length) : agree l k l.length = decide (l = k) := by
  unfold agree
  rw [List.take_length, List.take_of_length_le (by omega)]
theorem agree_no {l k : List Int} {i : Nat} (h : agree l k i = false) : decide (l = k) = false := by
  rw [decide_eq_false_iff_not]
  intro e
  unfold agree at h
  rw [decide_eq_false_iff_not] at h
  exact h (by rw [e])
theorem agree_step {l k : List Int} {i : Nat} (h : agree l k i = true) (h1 : i < l.length) (h2 : i < k.length) : agree l k (i + 1) = (l[i] == k[i]) := by
  unfold agree at h ⊢
  rw [decide_eq_true_eq] at h
  rw [List.take_succ_eq_append_getElem h1, List.take_succ_eq_append_getElem h2, h]
  rw [Bool.eq_iff_iff, decide_eq_true_eq, beq_iff_eq]
  refine ⟨fun e => ?_, fun e => by rw [e]⟩
  have := (List.append_inj' e rfl).2
  injection this

set_option maxRecDepth 100000 in
set_option maxHeartbeats 4000000 in
theorem zips_any (v v2 : Value) (P P2 : PlayD) (w : World) (h : IsPlay w v P) (h2 : IsPlay w v2 P2) :
    Calls Try.prog 10 #[v, v2] w fun e w' => e = .returned (.bool true) ∧ Below w.heap.size w w' := by
  obtain ⟨sv2, rfl, hpl2, hps2⟩ := id h2
  obtain ⟨Ap2, cp2, rfl, hp12, hp22, hpz2⟩ := hps2
  clear hpz2
  obtain ⟨sv, rfl, hpl, hps⟩ := id h
  obtain ⟨Ap, cp, rfl, hp1, hp2, hpz⟩ := hps
  clear hpz
  obtain ⟨W1, hW1⟩ : ∃ W1 : World, W1 = (w.alloc (.cells #[.int .u8 P.len, .int .i64 P.val, .slice Ap P.ops.length cp] 35)).alloc (.cells #[.int .u8 P2.len, .int .i64 P2.val, .slice Ap2 P2.ops.length cp2] 35) := ⟨_, rfl⟩
  have bW : Below w.heap.size w W1 := by rw [hW1]; exact ((Below.refl _ _).alloc (Nat.le_refl _) _).alloc (by simp; try omega) _
  have c10 : W1.cell? ⟨w.heap.size + 1, 0, none⟩ = some (.int .u8 P2.len) := by rw [hW1]; exact cell_over (cells_at (w.alloc (.cells #[.int .u8 P.len, .int .i64 P.val, .slice Ap P.ops.length cp] 35)) [.int .u8 P2.len, .int .i64 P2.val, .slice Ap2 P2.ops.length cp2] 35 (by simp) 0 _ rfl) (Below.refl _ _)
  have c11 : W1.cell? ⟨w.heap.size + 1, 1, none⟩ = some (.int .i64 P2.val) := by rw [hW1]; exact cell_over (cells_at (w.alloc (.cells #[.int .u8 P.len, .int .i64 P.val, .slice Ap P.ops.length cp] 35)) [.int .u8 P2.len, .int .i64 P2.val, .slice Ap2 P2.ops.length cp2] 35 (by simp) 1 _ rfl) (Below.refl _ _)
  have c12 : W1.cell? ⟨w.heap.size + 1, 2, none⟩ = some (.slice Ap2 P2.ops.length cp2) := by rw [hW1]; exact cell_over (cells_at (w.alloc (.cells #[.int .u8 P.len, .int .i64 P.val, .slice Ap P.ops.length cp] 35)) [.int .u8 P2.len, .int .i64 P2.val, .slice Ap2 P2.ops.length cp2] 35 (by simp) 2 _ rfl) (Below.refl _ _)
  have hsz : w.heap.size + 1 < W1.heap.size := by rw [hW1]; simp; try omega
  have hpW := h.over bW
  have HW := Lib.hid hW1.symm
  clear hW1 h
  go_enter Try.func10, Try.ntmps10
  go_wp2_with fail
  rw [HW.out]
  refine (playw_any _ P W1 hpW).mono ?_
  rintro e v0 ⟨m, A, cA, l, rfl, hmW, hM0, hI0, hNI, hlb, bP⟩
  have k10 := cell_over c10 bP
  have k11 := cell_over c11 bP
  have k12 := cell_over c12 bP
  have bw := bW.trans (bP.mono bW.size)
  have hgem : w.heap.size ≤ m := by omega
  have hbm1 : w.heap.size + 1 ≠ m := by omega
  clear c10 c11 c12 bP bW hNI hpW hsz hmW
  have h2v := h2.over bw
  clear h2
  go_wp2_with fail
  refine (playw_any _ P2 v0 h2v).mono ?_
  rintro e v1 ⟨m2, A2, cA2, l2, rfl, hm2W, hM2, hI2, hN2, hlb2, b1⟩
  have h2 := cell_over k10 b1
  have h3 := cell_over k11 b1
  have h4 := cell_over k12 b1
  have h5 := bw.trans (b1.mono bw.size)
  have h6 := hM0.below b1
  have h7 := hI0.over b1
  clear h2v hm2W hN2
  clear k10 k11 k12 bw hM0 hI0 b1
  clear h2 h3 h4
  go_wp2_with fail
  refine (known_any v1).mono ?_
  rintro e v2 ⟨rfl, b8⟩
  have h9 := h5.trans (b8.mono h5.size)
  have h10 := h6.below b8
  have h11 := h7.over b8
  have h12 := hM2.below b8
  have h13 := hI2.over b8
  clear h5 h6 h7 hM2 hI2 b8
  obtain ⟨n, hn⟩ : ∃ n, n = l.length := ⟨_, rfl⟩
  obtain ⟨n2, hn2⟩ : ∃ n, n = l2.length := ⟨_, rfl⟩
  rw [← hn] at h11 hlb ⊢
  rw [← hn2] at h13 hlb2 ⊢
  have HN := Lib.hid hn
  have HN2 := Lib.hid hn2
  clear hn hn2
  by_cases hne : n = n2
  · subst hne
    have hll : l.length = l2.length := by rw [← HN.out, ← HN2.out]
    obtain ⟨E, hE⟩ : ∃ E, E = decide (l = l2) := ⟨_, rfl⟩
    have hE2 : decide (l2 = l) = E := by rw [hE]; exact decide_eq_decide.2 ⟨Eq.symm, Eq.symm⟩
    have HQ1 : Hid (∀ W, MapIs W m l → MapIs W m2 l2 → Calls Try.prog 24 #[.pointer (some ⟨m, 0, none⟩), .pointer (some ⟨m2, 0, none⟩)] W fun e w' => e = .returned (.bool E) ∧ Below W.heap.size W w') := Lib.hid fun W g1 g2 => by have := equal_any m m2 l l2 W g1 g2; rwa [← hE] at this
    have HQ2 : Hid (∀ W, MapIs W m l → MapIs W m2 l2 → Calls Try.prog 24 #[.pointer (some ⟨m2, 0, none⟩), .pointer (some ⟨m, 0, none⟩)] W fun e w' => e = .returned (.bool E) ∧ Below W.heap.size W w') := Lib.hid fun W g1 g2 => by have := equal_any m2 m l2 l W g2 g1; rwa [hE2] at this
    have HEall : Hid (agree l l2 n = E) := Lib.hid (by rw [HN.out, agree_all l l2 hll, hE])
    have HEno : Hid (∀ i, agree l l2 i = false → E = false) := Lib.hid fun i h => by rw [hE]; exact agree_no h
    have HZn : Hid (∀ W, MapIs W m l → MapIs W m2 l2 → Calls Try.prog 32 #[.pointer (some ⟨m, 0, none⟩), .pointer (some ⟨m2, 0, none⟩)] W fun e w' => ∃ v, e = .returned (.tuple #[v, .int .i64 0]) ∧ Own encP 4 74 w' W.heap.size v (pairsOf l l2) ∧ Below W.heap.size W w') := Lib.hid fun W g1 g2 => zip_some m m2 l l2 W g1 g2 hll (by have := HN.out; omega)
    have HZr : Hid (∀ W lv kv, IntsV W W.heap.size lv l → IntsV W W.heap.size kv l2 → Calls Try.prog 33 #[lv, kv] W fun e w' => ∃ v, e = .returned v ∧ Own encP 4 75 w' W.heap.size v (pairsOf l l2) ∧ Below W.heap.size W w') := Lib.hid fun W lv kv g1 g2 => rzip_any lv kv l l2 W g1 g2 hll (by have := HN.out; omega)
    have hpz := pairs_length l l2
    rw [← HN.out] at hpz
    obtain ⟨Z, hZ⟩ : ∃ Z, Z = pairsOf l l2 := ⟨_, rfl⟩
    rw [← hZ] at HZn HZr hpz
    have hnb : (n == n) = true := by simp
    have hnb1 : (n != n) = false := by simp
    have hnI : ((n : Int) == (n : Int)) = true := by simp
    have hnI1 : ((n : Int) != (n : Int)) = false := by simp
    have hEE : (E != E) = false := by simp
    clear hE hE2 hZ hll
    go_wp2_with fail
    refine (HZn.out v2 h10 h12).mono ?_
    rintro e v4 ⟨vp, rfl, hop, b14⟩
    have h15 := h9.trans (b14.mono h9.size)
    have h16 := h10.below b14
    have h17 := h11.over b14
    have h18 := h12.below b14
    have h19 := h13.over b14
    have hsp := hop.sl encP_length
    clear hop
    clear h9 h10 h11 h12 h13 b14
    obtain ⟨Ap9, cp9, rfl, hp91, hp92, hp9⟩ := hsp.pairs
    clear hp9
    obtain ⟨nz, hnz⟩ : ∃ n, n = Z.length := ⟨_, rfl⟩
    rw [← hnz] at hp91 hpz hsp ⊢
    have HNZ := Lib.hid hnz
    clear hnz
    obtain ⟨_, _, ei1, _, _, hr1⟩ := h17.ints
    injection ei1 with ei1 ei1' ei1''
    subst ei1
    obtain ⟨_, _, ei2, _, _, hr2⟩ := h19.ints
    injection ei2 with ei2 ei2' ei2''
    subst ei2
    have HR1 := Lib.hid hr1
    have HR2 := Lib.hid hr2
    clear hr1 hr2 ei1' ei1'' ei2' ei2''
    go_wp2
    go_loopw [13, 14] (fun ev iv wr => ∃ (i nq : Nat) (e : Bool), i ≤ n ∧ iv = .int .i64 i ∧ ev = .bool e ∧ Hid (agree l l2 i = e) ∧ wr = v4.drewN nq) (fun _ iv _ => n - (intOf iv).toNat)
    case atStart => exact ⟨0, 0, true, Nat.zero_le _, rfl, rfl, Lib.hid (agree_zero _ _), rfl⟩
    case round =>
      obtain ⟨i, nq, ee, hi, rfl, rfl, HA, rfl⟩ := hrel
      cases ee
      · have hEf : E = false := HEno.out i HA.out
        subst hEf
        by_cases hin : (i : Int) < (n : Int)
        · have hd9 : decide ((i : Int) < (n : Int)) = true := decide_eq_true hin
          go_wp2_with fail
          have bq := below_drewN (Below.refl v4.heap.size v4) nq
          generalize v4.drewN nq = vq1 at bq ⊢
          have h20 := h15.trans (bq.mono h15.size)
          have h21 := h16.below bq
          have h22 := h17.over bq
          have h23 := h18.below bq
          have h24 := h19.over bq
          have h25 := hsp.over bq
          clear h15 h16 h17 h18 h19 hsp bq
          go_wp2_with fail
          refine (HQ1.out vq1 h21 h23).mono ?_
          rintro e v5 ⟨rfl, b26⟩
          have h27 := h20.trans (b26.mono h20.size)
          have h28 := h21.below b26
          have h29 := h22.over b26
          have h30 := h23.below b26
          have h31 := h24.over b26
          have h32 := h25.over b26
          clear h20 h21 h22 h23 h24 h25 b26
          go_wp2_with fail
          refine (HQ2.out v5 h28 h30).mono ?_
          rintro e v6 ⟨rfl, b33⟩
          have h34 := h27.trans (b33.mono h27.size)
          have h35 := h28.below b33
          have h36 := h29.over b33
          have h37 := h30.below b33
          have h38 := h31.over b33
          have h39 := h32.over b33
          clear h27 h28 h29 h30 h31 h32 b33
          go_wp2_with fail
          refine (HZr.out v6 _ _ h36 h38).mono ?_
          rintro e v7 ⟨vr, rfl, hor, b40⟩
          have h41 := h34.trans (b40.mono h34.size)
          have h42 := h35.below b40
          have h43 := h36.over b40
          have h44 := h37.below b40
          have h45 := h38.over b40
          have h46 := h39.over b40
          have hsr := hor.sl encP_length
          clear hor
          clear h34 h35 h36 h37 h38 h39 b40
          obtain ⟨Ar9, cr9, rfl, hr91, hr92, hr9⟩ := hsr.pairs
          obtain ⟨_, _, ep, _, _, hp9⟩ := h46.pairs
          injection ep with ep ep' ep''
          subst ep
          rw [← HNZ.out] at hr91 ⊢
          have hzz : (nz != nz) = false := by simp
          have hzI : ((nz : Int) != (nz : Int)) = false := by simp
          have HPA := Lib.hid hp9
          have HRA := Lib.hid hr9
          clear hp9 hr9 hsr ep' ep'' h46 h42 h44 h43 h45
          go_wp2
          go_loopw [16] (fun kv wr => ∃ (k nr : Nat), k ≤ nz ∧ kv = .int .i64 k ∧ wr = v7.drewN nr) (fun kv _ => nz - (intOf kv).toNat)
          case atStart => exact ⟨0, 0, Nat.zero_le _, rfl, rfl⟩
          case round =>
            obtain ⟨k, nr, hk, rfl, rfl⟩ := hrel
            by_cases hlt : k < nz
            · have hkz : k < Z.length := by rw [← HNZ.out]; exact hlt
              obtain ⟨bp, op, rfl, _, q1, q2, q3, q4⟩ := HPA.out k hkz
              obtain ⟨br, or', rfl, _, r1, r2, r3, r4⟩ := HRA.out k hkz
              obtain ⟨z, hz⟩ : ∃ z, z = Z[k]'hkz := ⟨_, rfl⟩
              rw [← hz] at q1 q2 q3 q4 r1 r2 r3 r4
              clear hz hkz
              obtain ⟨z0, z1, z2, z3⟩ := z
              simp only at q1 q2 q3 q4 r1 r2 r3 r4
              have hkI : (k : Int) < (nz : Int) := by omega
              go_wp2
              go_quiet (fail)
              go_wp2
              go_roundw
              case rel => exact ⟨k + 1, _, by omega, by go_num, by first | rfl | exact World.drewN_drewN _ _ _⟩
              case measure => simp [intOf]; omega
            · go_wp2
              go_ret
              exact ⟨rfl, below_drewN h41 _⟩
        · have hd9 : decide ((i : Int) < (n : Int)) = false := decide_eq_false hin
          go_wp2_with fail
          have bq := below_drewN (Below.refl v4.heap.size v4) nq
          generalize v4.drewN nq = vq1 at bq ⊢
          have h20 := h15.trans (bq.mono h15.size)
          have h21 := h16.below bq
          have h22 := h17.over bq
          have h23 := h18.below bq
          have h24 := h19.over bq
          have h25 := hsp.over bq
          clear h15 h16 h17 h18 h19 hsp bq
          go_wp2_with fail
          refine (HQ1.out vq1 h21 h23).mono ?_
          rintro e v5 ⟨rfl, b26⟩
          have h27 := h20.trans (b26.mono h20.size)
          have h28 := h21.below b26
          have h29 := h22.over b26
          have h30 := h23.below b26
          have h31 := h24.over b26
          have h32 := h25.over b26
          clear h20 h21 h22 h23 h24 h25 b26
          go_wp2_with fail
          refine (HQ2.out v5 h28 h30).mono ?_
          rintro e v6 ⟨rfl, b33⟩
          have h34 := h27.trans (b33.mono h27.size)
          have h35 := h28.below b33
          have h36 := h29.over b33
          have h37 := h30.below b33
          have h38 := h31.over b33
          have h39 := h32.over b33
          clear h27 h28 h29 h30 h31 h32 b33
          go_wp2_with fail
          refine (HZr.out v6 _ _ h36 h38).mono ?_
          rintro e v7 ⟨vr, rfl, hor, b40⟩
          have h41 := h34.trans (b40.mono h34.size)
          have h42 := h35.below b40
          have h43 := h36.over b40
          have h44 := h37.below b40
          have h45 := h38.over b40
          have h46 := h39.over b40
          have hsr := hor.sl encP_length
          clear hor
          clear h34 h35 h36 h37 h38 h39 b40
          obtain ⟨Ar9, cr9, rfl, hr91, hr92, hr9⟩ := hsr.pairs
          obtain ⟨_, _, ep, _, _, hp9⟩ := h46.pairs
          injection ep with ep ep' ep''
          subst ep
          rw [← HNZ.out] at hr91 ⊢
          have hzz : (nz != nz) = false := by simp
          have hzI : ((nz : Int) != (nz : Int)) = false := by simp
          have HPA := Lib.hid hp9
          have HRA := Lib.hid hr9
          clear hp9 hr9 hsr ep' ep'' h46 h42 h44 h43 h45
          go_wp2
          go_loopw [16] (fun kv wr => ∃ (k nr : Nat), k ≤ nz ∧ kv = .int .i64 k ∧ wr = v7.drewN nr) (fun kv _ => nz - (intOf kv).toNat)
          case atStart => exact ⟨0, 0, Nat.zero_le _, rfl, rfl⟩
          case round =>
            obtain ⟨k, nr, hk, rfl, rfl⟩ := hrel
            by_cases hlt : k < nz
            · have hkz : k < Z.length := by rw [← HNZ.out]; exact hlt
              obtain ⟨bp, op, rfl, _, q1, q2, q3, q4⟩ := HPA.out k hkz
              obtain ⟨br, or', rfl, _, r1, r2, r3, r4⟩ := HRA.out k hkz
              obtain ⟨z, hz⟩ : ∃ z, z = Z[k]'hkz := ⟨_, rfl⟩
              rw [← hz] at q1 q2 q3 q4 r1 r2 r3 r4
              clear hz hkz
              obtain ⟨z0, z1, z2, z3⟩ := z
              simp only at q1 q2 q3 q4 r1 r2 r3 r4
              have hkI : (k : Int) < (nz : Int) := by omega
              go_wp2
              go_quiet (fail)
              go_wp2
              go_roundw
              case rel => exact ⟨k + 1, _, by omega, by go_num, by first | rfl | exact World.drewN_drewN _ _ _⟩
              case measure => simp [intOf]; omega
            · go_wp2
              go_ret
              exact ⟨rfl, below_drewN h41 _⟩
      · by_cases hin : i < n
        · have hiL : i < l.length := by rw [← HN.out]; exact hin
          have hiL2 : i < l2.length := by rw [← HN2.out]; exact hin
          have HST := Lib.hid (agree_step HA.out hiL hiL2)
          obtain ⟨b7, o7, rfl, _, g7⟩ := HR1.out i hiL
          obtain ⟨b8, o8, rfl, _, g8⟩ := HR2.out i hiL2
          obtain ⟨x, hx⟩ : ∃ x, x = l[i]'hiL := ⟨_, rfl⟩
          obtain ⟨y, hy⟩ : ∃ y, y = l2[i]'hiL2 := ⟨_, rfl⟩
          rw [← hx] at g7 HST
          rw [← hy] at g8 HST
          have hiI : (i : Int) < (n : Int) := by omega
          clear hx hy hiL hiL2
          go_wp2
          go_quiet (fail)
          go_wp2
          go_roundw
          case rel => exact ⟨i + 1, _, _, by omega, by go_num, rfl, HST, by first | rfl | exact World.drewN_drewN _ _ _⟩
          case measure => simp [intOf]; omega
        · have hni : i = n := by omega
          have hEt : E = true := by rw [← HEall.out, ← hni]; exact HA.out
          subst hEt hni
          have hd9 : decide ((i : Int) < (i : Int)) = false := by simp
          go_wp2_with fail
          have bq := below_drewN (Below.refl v4.heap.size v4) nq
          generalize v4.drewN nq = vq1 at bq ⊢
          have h20 := h15.trans (bq.mono h15.size)
          have h21 := h16.below bq
          have h22 := h17.over bq
          have h23 := h18.below bq
          have h24 := h19.over bq
          have h25 := hsp.over bq
          clear h15 h16 h17 h18 h19 hsp bq
          go_wp2_with fail
          refine (HQ1.out vq1 h21 h23).mono ?_
          rintro e v5 ⟨rfl, b26⟩
          have h27 := h20.trans (b26.mono h20.size)
          have h28 := h21.below b26
          have h29 := h22.over b26
          have h30 := h23.below b26
          have h31 := h24.over b26
          have h32 := h25.over b26
          clear h20 h21 h22 h23 h24 h25 b26
          go_wp2_with fail
          refine (HQ2.out v5 h28 h30).mono ?_
          rintro e v6 ⟨rfl, b33⟩
          have h34 := h27.trans (b33.mono h27.size)
          have h35 := h28.below b33
          have h36 := h29.over b33
          have h37 := h30.below b33
          have h38 := h31.over b33
          have h39 := h32.over b33
          clear h27 h28 h29 h30 h31 h32 b33
          go_wp2_with fail
          refine (HZr.out v6 _ _ h36 h38).mono ?_
          rintro e v7 ⟨vr, rfl, hor, b40⟩
          have h41 := h34.trans (b40.mono h34.size)
          have h42 := h35.below b40
          have h43 := h36.over b40
          have h44 := h37.below b40
          have h45 := h38.over b40
          have h46 := h39.over b40
          have hsr := hor.sl encP_length
          clear hor
          clear h34 h35 h36 h37 h38 h39 b40
          obtain ⟨Ar9, cr9, rfl, hr91, hr92, hr9⟩ := hsr.pairs
          obtain ⟨_, _, ep, _, _, hp9⟩ := h46.pairs
          injection ep with ep ep' ep''
          subst ep
          rw [← HNZ.out] at hr91 ⊢
          have hzz : (nz != nz) = false := by simp
          have hzI : ((nz : Int) != (nz : Int)) = false := by simp
          have HPA := Lib.hid hp9
          have HRA := Lib.hid hr9
          clear hp9 hr9 hsr ep' ep'' h46 h42 h44 h43 h45
          go_wp2
          go_loopw [16] (fun kv wr => ∃ (k nr : Nat), k ≤ nz ∧ kv = .int .i64 k ∧ wr = v7.drewN nr) (fun kv _ => nz - (intOf kv).toNat)
          case atStart => exact ⟨0, 0, Nat.zero_le _, rfl, rfl⟩
          case round =>
            obtain ⟨k, nr, hk, rfl, rfl⟩ := hrel
            by_cases hlt : k < nz
            · have hkz : k < Z.length := by rw [← HNZ.out]; exact hlt
              obtain ⟨bp, op, rfl, _, q1, q2, q3, q4⟩ := HPA.out k hkz
              obtain ⟨br, or', rfl, _, r1, r2, r3, r4⟩ := HRA.out k hkz
              obtain ⟨z, hz⟩ : ∃ z, z = Z[k]'hkz := ⟨_, rfl⟩
              rw [← hz] at q1 q2 q3 q4 r1 r2 r3 r4
              clear hz hkz
              obtain ⟨z0, z1, z2, z3⟩ := z
              simp only at q1 q2 q3 q4 r1 r2 r3 r4
              have hkI : (k : Int) < (nz : Int) := by omega
              go_wp2
              go_quiet (fail)
              go_wp2
              go_roundw
              case rel => exact ⟨k + 1, _, by omega, by go_num, by first | rfl | exact World.drewN_drewN _ _ _⟩
              case measure => simp [intOf]; omega
            · go_wp2
              go_ret
              exact ⟨rfl, below_drewN h41 _⟩
  · have hdn : decide (l = l2) = false := decide_eq_false (fun e => hne (by rw [HN.out, HN2.out, e]))
    have hdn2 : decide (l2 = l) = false := decide_eq_false (fun e => hne (by rw [HN.out, HN2.out, e]))
    have HQ1 : Hid (∀ W, MapIs W m l → MapIs W m2 l2 → Calls Try.prog 24 #[.pointer (some ⟨m, 0, none⟩), .pointer (some ⟨m2, 0, none⟩)] W fun e w' => e = .returned (.bool false) ∧ Below W.heap.size W w') := Lib.hid fun W g1 g2 => by have := equal_any m m2 l l2 W g1 g2; rwa [hdn] at this
    have HQ2 : Hid (∀ W, MapIs W m l → MapIs W m2 l2 → Calls Try.prog 24 #[.pointer (some ⟨m2, 0, none⟩), .pointer (some ⟨m, 0, none⟩)] W fun e w' => e = .returned (.bool false) ∧ Below W.heap.size W w') := Lib.hid fun W g1 g2 => by have := equal_any m2 m l2 l W g2 g1; rwa [hdn2] at this
    have hnb : (n == n2) = false := by rw [beq_eq_false_iff_ne]; exact hne
    have hnb1 : (n != n2) = true := by rw [bne_iff_ne]; exact hne
    have hnI : ((n : Int) == (n2 : Int)) = false := by rw [beq_eq_false_iff_ne]; omega
    have hnI1 : ((n : Int) != (n2 : Int)) = true := by rw [bne_iff_ne]; omega
    clear hdn hdn2
    go_wp2_with fail
    refine (zlen_none m m2 l l2 v2 h10 h12 (by rw [← HN.out, ← HN2.out]; exact hne)).mono ?_
    rintro e v3 ⟨rfl, b14⟩
    have h15 := h9.trans (b14.mono h9.size)
    have h16 := h10.below b14
    have h17 := h11.over b14
    have h18 := h12.below b14
    have h19 := h13.over b14
    clear h9 h10 h11 h12 h13 b14
    go_wp2
    go_loopw [13, 14] (fun ev iv wr => iv = .int .i64 0 ∧ ev = .bool false ∧ wr = v3) (fun _ iv _ => n - (intOf iv).toNat)
    case atStart => exact ⟨rfl, rfl, rfl⟩
    case round =>
      obtain ⟨rfl, rfl, hw⟩ := hrel
      subst wr
      by_cases hz : n = 0
      · have hd0 : decide ((0 : Int) < (n : Int)) = false := by simp; omega
        have hd0N : decide (0 < n) = false := by simp; omega
        go_wp2_with fail
        refine (HQ1.out v3 h16 h18).mono ?_
        rintro e v4 ⟨rfl, b20⟩
        have h21 := h15.trans (b20.mono h15.size)
        have h22 := h16.below b20
        have h23 := h17.over b20
        have h24 := h18.below b20
        have h25 := h19.over b20
        clear h15 h16 h17 h18 h19 b20
        go_wp2_with fail
        refine (HQ2.out v4 h22 h24).mono ?_
        rintro e v5 ⟨rfl, b26⟩
        have h27 := h21.trans (b26.mono h21.size)
        have h28 := h22.below b26
        have h29 := h23.over b26
        have h30 := h24.below b26
        have h31 := h25.over b26
        clear h21 h22 h23 h24 h25 b26
        go_wp2
        go_ret
        exact ⟨rfl, h27⟩
      · have hd0 : decide ((0 : Int) < (n : Int)) = true := by simp; omega
        have hd0N : decide (0 < n) = true := by simp; omega
        go_wp2_with fail
        refine (HQ1.out v3 h16 h18).mono ?_
        rintro e v4 ⟨rfl, b20⟩
        have h21 := h15.trans (b20.mono h15.size)
        have h22 := h16.below b20
        have h23 := h17.over b20
        have h24 := h18.below b20
        have h25 := h19.over b20
        clear h15 h16 h17 h18 h19 b20
        go_wp2_with fail
        refine (HQ2.out v4 h22 h24).mono ?_
        rintro e v5 ⟨rfl, b26⟩
        have h27 := h21.trans (b26.mono h21.size)
        have h28 := h22.below b26
        have h29 := h23.over b26
        have h30 := h24.below b26
        have h31 := h25.over b26
        clear h21 h22 h23 h24 h25 b26
        go_wp2
        go_ret
        exact ⟨rfl, h27⟩
end Go.Proofs.Ytpcjklfdgjeamaa
