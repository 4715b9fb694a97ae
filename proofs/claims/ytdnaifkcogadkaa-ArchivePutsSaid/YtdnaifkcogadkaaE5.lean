/- Walk: encode. -/
import Derived.Deep.RegionHeld3
import Derived.Test.YtdnaifkcogadkaaE4
import Derived.Test.YtdnaifkcogadkaaNames
namespace Go.Proofs.Ytdnaifkcogadkaa
open Go.RowKit

theorem keep3 {w w' : World} {b n m : Nat} {u v : Value} (h1 : w.cell? ⟨b, n, none⟩ = some u) (h2 : w.cell? ⟨b, m, none⟩ = some v) (hb : Below w.heap.size w w') : w'.cell? ⟨b, n, none⟩ = some u ∧ w'.cell? ⟨b, m, none⟩ = some v ∧ Below w.heap.size w w' := ⟨cell_over h1 hb, cell_over h2 hb, hb⟩
theorem size4 {s : ByteArray} {n : Nat} (h : bytesN s = put32 n) : s.size = 4 := by rw [← bytesN_length, h]; rfl
theorem keepB {w W W' : World} {p q : Addr} {u v : Value} (hk : Below W.heap.size W W') (h1 : W.cell? p = some u) (h2 : W.cell? q = some v) (hb : Below w.heap.size w W) : W'.cell? p = some u ∧ W'.cell? q = some v ∧ Below w.heap.size w W' :=
  ⟨cell_over h1 hk, cell_over h2 hk, hb.trans (hk.mono hb.size)⟩
theorem keepAl {w W : World} {p q : Addr} {u v : Value} (o : Obj) (h1 : W.cell? p = some u) (h2 : W.cell? q = some v) (hb : Below w.heap.size w W) : (W.alloc o).cell? p = some u ∧ (W.alloc o).cell? q = some v ∧ Below w.heap.size w (W.alloc o) :=
  keepB ((Below.refl _ W).alloc (Nat.le_refl _) o) h1 h2 hb
theorem keepC {w w1 w2 : World} (h : Below w.heap.size w w1) (hk : Below w1.heap.size w1 w2) : Below w.heap.size w w2 := h.trans (hk.mono h.size)
theorem put_det (n : Nat) (P : ByteArray) (hP : P = ofN (put32 n)) (w : World) : Calls Try.prog 26 #[.int .u32 n] w fun e w' => e = .returned (.string P) ∧ Below w.heap.size w w' :=
  (put_any n w).mono fun e w' ⟨s, h1, h2, h3⟩ => by
    have : s = P := by rw [hP]; exact bytesN_inj (by rw [h2, bytesN_ofN (put32_lt n)])
    rw [← this]
    exact ⟨h1, h3⟩
set_option maxRecDepth 100000 in
set_option maxHeartbeats 40000000 in
theorem encode_ref (v : Value) (l : List Prt) (w : World) (h : Parts w w.heap.size v l) (hS : Small l) :
    Calls Try.prog 16 #[v] w fun e w' => ∃ (s : ByteArray) (n : Int), e = .returned (.tuple #[.string s, .int .i64 n]) ∧ encPost l s n ∧ Below w.heap.size w w' := by
  have HC := Lib.hid (checked_any v l w h hS)
  obtain ⟨A, c, rfl, hlc, hc, _⟩ := h.part
  have HPt := Lib.hid h
  have HS := Lib.hid hS
  have hll := hS.1
  clear h hS
  by_cases he : errE l = 0
  · have HE := Lib.hid he
    have h64 : l.length ≤ 64 := by
      unfold errE at he
      by_cases h64 : 64 < l.length
      · rw [if_pos h64] at he; exact absurd he (by decide)
      · omega
    go_enter Try.func16, Try.ntmps16
    go_wp2_with fail
    refine HC.out.mono ?_
    rw [HE.out]
    rintro e w1 ⟨rfl, hk1⟩
    have hP1 := HPt.out.over hk1
    go_wp2_with fail
    refine (ordered_any _ l w1 hP1 hll).mono ?_
    rintro e w2 ⟨v2, q, rfl, hperm, hsort, hown2, hk2⟩
    have hb2 := hk1.trans (hk2.mono hk1.size)
    have hsl := hown2.sl encP_length
    obtain ⟨A3, c3, rfl, hlc3, hc3, HP3⟩ := Sl.part hsl
    have HQ := Lib.hid (And.intro hperm hsort)
    have HP3 := Lib.hid HP3
    clear hP1 hk1 hk2 hown2 hsl hperm hsort
    go_wp2_with fail
    go_loopw [5, 6, 7] (fun dv av iv wr => ∃ (k : Nat) (sd sa : ByteArray), k ≤ q.length ∧ iv = .int .i64 k ∧ dv = .string sd ∧ av = .string sa ∧ Hid (bytesN sd = dirL (q.take k)) ∧ Hid (bytesN sa = dataL (q.take k)) ∧ sd.size ≤ k * 1048600 ∧ sa.size ≤ k * 4194304 ∧ Below w2.heap.size w2 wr) (fun _ _ iv _ => q.length - (intOf iv).toNat)
    case atStart => exact ⟨0, _, _, Nat.zero_le _, rfl, rfl, rfl, Lib.hid rfl, Lib.hid rfl, Nat.le_refl _, Nat.le_refl _, Below.refl _ _⟩
    case round =>
      obtain ⟨k, sd, sa, hk, rfl, rfl, rfl, HD, HA, hd1, ha1, hb⟩ := hrel
      have hbz := hb.size
      by_cases hlt : k < q.length
      · obtain ⟨b, o, rfl, hbB, g1, g2⟩ := (HP3.out.below hb) k hlt
        obtain ⟨hn1, hn2⟩ := HS.out.2 q[k] (HQ.out.1.mem_iff.1 (List.getElem_mem _))
        have hq20 : q.length ≤ 64 := by rw [HQ.out.1.length_eq]; exact h64
        have HTD : Hid (dirL (q.take (k + 1)) = bytesN sd ++ dirOf q[k]) := Lib.hid (by rw [List.take_succ_eq_append_getElem hlt, HD.out]; unfold dirL; rw [List.flatMap_append]; simp)
        have HTA : Hid (dataL (q.take (k + 1)) = bytesN sa ++ bytesN q[k].2) := Lib.hid (by rw [List.take_succ_eq_append_getElem hlt, HA.out]; unfold dataL; rw [List.flatMap_append]; simp)
        obtain ⟨x, hx⟩ : ∃ x, x = q[k] := ⟨_, rfl⟩
        rw [← hx] at g1 g2 hn1 hn2 HTD HTA
        clear hx
        obtain ⟨x0, x1⟩ := x
        simp only at g1 g2 hn1 hn2
        have hbW : b < wr.heap.size := by omega
        have wr32 : IntKind.u32.wrap (x1.size : Int) = (x1.size : Int) := wrap_u32 _ (by omega)
        have hone : ∀ b ∈ [x0.size % 256], b < 256 := fun b hb => by
          obtain rfl : b = x0.size % 256 := by simpa using hb
          omega
        have wr8 : IntKind.u8.wrap (x0.size : Int) = (x0.size : Int) % 256 := by rw [IntKind.wrap_u8']
        have hcv : ∀ (W : World) (n : Nat), W.cell? ⟨n, 0, none⟩ = some (.int .u8 ((x0.size : Int) % 256)) → (convert 35 9 (.slice (some ⟨n, 0, none⟩) 1 1)).run Try.prog W = .ok (.string (ofN [x0.size % 256])) W := fun W n hn => run_bytes_str W ⟨n, 0, none⟩ 1 [x0.size % 256] hone (by
          intro j u hj
          cases j with
          | zero =>
            simp only [List.flatMap_cons, List.flatMap_nil, encB, List.append_nil, List.getElem?_cons_zero, Option.some.injEq] at hj
            subst hj
            exact hn
          | succ j => simp [encB] at hj)
        have z1 : (ofN [x0.size % 256]).size = 1 := ofN_size _
        have z2 : (sd ++ ofN [x0.size % 256]).size = sd.size + 1 := by rw [ByteArray.size_append, z1]
        have z3 : (sd ++ ofN [x0.size % 256] ++ x0).size = sd.size + 1 + x0.size := by rw [ByteArray.size_append, z2]
        obtain ⟨cr, hcr⟩ : ∃ cr, cr = crcL (bytesN x1) := ⟨_, rfl⟩
        obtain ⟨m1, hm1⟩ : ∃ m, m = x1.size := ⟨_, rfl⟩
        obtain ⟨P1, hP1⟩ : ∃ P, P = ofN (put32 m1) := ⟨_, rfl⟩
        obtain ⟨P2, hP2⟩ : ∃ P, P = ofN (put32 cr) := ⟨_, rfl⟩
        obtain ⟨sx, hsx⟩ : ∃ sx, sx = ofN [x0.size % 256] := ⟨_, rfl⟩
        have y1 : P1.size = 4 := by rw [hP1, ofN_size]; rfl
        have y2 : P2.size = 4 := by rw [hP2, ofN_size]; rfl
        obtain ⟨s1, hs1⟩ : ∃ x, x = sd ++ sx := ⟨_, rfl⟩
        obtain ⟨s2, hs2⟩ : ∃ x, x = s1 ++ x0 := ⟨_, rfl⟩
        obtain ⟨s3, hs3⟩ : ∃ x, x = s2 ++ P1 := ⟨_, rfl⟩
        obtain ⟨s4, hs4⟩ : ∃ x, x = s3 ++ P2 := ⟨_, rfl⟩
        have q1 : s1.size = sd.size + 1 := by rw [hs1, ByteArray.size_append, hsx, z1]
        have q2 : s2.size = sd.size + 1 + x0.size := by rw [hs2, ByteArray.size_append, q1]
        have q3 : s3.size = sd.size + 1 + x0.size + 4 := by rw [hs3, ByteArray.size_append, q2, y1]
        have q4 : s4.size = sd.size + 1 + x0.size + 8 := by rw [hs4, ByteArray.size_append, q3, y2]
        have HDn : Hid (bytesN s4 = dirL (q.take (k + 1))) := Lib.hid (by
          rw [HTD.out, hs4, hs3, hs2, hs1, hsx, hP1, hP2, bytesN_append, bytesN_append, bytesN_append, bytesN_append, bytesN_ofN hone, bytesN_ofN (put32_lt _), bytesN_ofN (put32_lt _), hcr, hm1]
          simp [dirOf])
        have hdz : s4.size ≤ (k + 1) * 1048600 := by rw [q4]; omega
        have j1 : ∀ w : World, (Op.stringOp .add sd sx).run Try.prog w = .ok (.string s1) w := fun w => by rw [hs1]; exact run_string_add_sum w _ _ (by rw [hsx, z1]; omega)
        have j2 : ∀ w : World, (Op.stringOp .add s1 x0).run Try.prog w = .ok (.string s2) w := fun w => by rw [hs2]; exact run_string_add_sum w _ _ (by rw [q1]; omega)
        have j3 : ∀ w : World, (Op.stringOp .add s2 P1).run Try.prog w = .ok (.string s3) w := fun w => by rw [hs3]; exact run_string_add_sum w _ _ (by rw [q2, y1]; omega)
        have j4 : ∀ w : World, (Op.stringOp .add s3 P2).run Try.prog w = .ok (.string s4) w := fun w => by rw [hs4]; exact run_string_add_sum w _ _ (by rw [q3, y2]; omega)
        rw [← hsx] at hcv
        have wr32' : IntKind.u32.wrap (x1.size : Int) = (m1 : Int) := by rw [wr32, hm1]
        have CS : Hid (∀ W, Calls Try.prog 20 #[.string x1] W fun e w' => e = .returned (.int .u32 cr) ∧ W = w') := Lib.hid (fun W => by rw [hcr]; exact sum_any x1 W (by omega))
        have CP1 : Hid (∀ W, (W.cell? ⟨b, o + k * 2, none⟩ = some (.string x0) ∧ W.cell? ⟨b, o + k * 2 + 1, none⟩ = some (.string x1) ∧ Below wr.heap.size wr W) → Calls Try.prog 26 #[.int .u32 (m1 : Int)] W fun e w' => e = .returned (.string P1) ∧ (∀ p, W.cell? p = some (.int .u8 ((x0.size : Int) % 256)) → w'.cell? p = some (.int .u8 ((x0.size : Int) % 256))) ∧ (w'.cell? ⟨b, o + k * 2, none⟩ = some (.string x0) ∧ w'.cell? ⟨b, o + k * 2 + 1, none⟩ = some (.string x1) ∧ Below wr.heap.size wr w')) := Lib.hid (fun W ⟨q1, q2, q3⟩ => (put_det m1 P1 hP1 W).mono fun e w' ⟨h1, h3⟩ => ⟨h1, fun p hp => cell_over hp h3, keepB h3 q1 q2 q3⟩)
        have CP2 : Hid (∀ W, (W.cell? ⟨b, o + k * 2, none⟩ = some (.string x0) ∧ W.cell? ⟨b, o + k * 2 + 1, none⟩ = some (.string x1) ∧ Below wr.heap.size wr W) → Calls Try.prog 26 #[.int .u32 (cr : Int)] W fun e w' => e = .returned (.string P2) ∧ (∀ p, W.cell? p = some (.int .u8 ((x0.size : Int) % 256)) → w'.cell? p = some (.int .u8 ((x0.size : Int) % 256))) ∧ (w'.cell? ⟨b, o + k * 2, none⟩ = some (.string x0) ∧ w'.cell? ⟨b, o + k * 2 + 1, none⟩ = some (.string x1) ∧ Below wr.heap.size wr w')) := Lib.hid (fun W ⟨q1, q2, q3⟩ => (put_det cr P2 hP2 W).mono fun e w' ⟨h1, h3⟩ => ⟨h1, fun p hp => cell_over hp h3, keepB h3 q1 q2 q3⟩)
        have HX1 : Hid (x1.size ≤ 4194304) := Lib.hid hn2
        clear hs1 hs2 hs3 hs4 hsx hP1 hP2 hcr q1 q2 q3 q4 y1 y2 z1 z2 z3 HTD HD wr32 hone hm1
        have HBk := Lib.hid hb
        have bwd : Below wr.heap.size wr wr.drew := (Below.refl _ wr).drew
        have bA : Below wr.heap.size wr (wr.alloc (.cells #[.int .u8 ((x0.size : Int) % 256)] 5)).drew := ((Below.refl _ wr).alloc (Nat.le_refl _) _).drew
        have gA1 := cell_over g1 bA
        have gA2 := cell_over g2 bA
        go_wp2_with fail
        go_region_held_law (fun w' => w'.cell? ⟨b, o + k * 2, none⟩ = some (.string x0) ∧ w'.cell? ⟨b, o + k * 2 + 1, none⟩ = some (.string x1) ∧ Below wr.heap.size wr w')
          (first
            | exact ⟨g1, g2, bwd⟩
            | exact ⟨gA1, gA2, bA⟩
            | assumption
            | (go_split_ands; refine ⟨?_, ?_, ?_⟩ <;> assumption)
            | (go_split_ands; refine keepAl _ ?_ ?_ ?_ <;> assumption))
          (first
            | (go_at_call 20; (with_reducible refine (CS.out _).mono ?_); rintro e w4 ⟨rfl, rfl⟩)
            | (go_at_call 26; (with_reducible refine (CP1.out _ (by first | assumption | exact ⟨by assumption, by assumption, by assumption⟩)).mono ?_); rintro e w3 ⟨rfl, hq1, hk3⟩; have hn1 := hq1 ⟨wr.heap.size, 0, none⟩; (try simp at hn1); clear hq1)
            | (go_at_call 26; (with_reducible refine (CP2.out _ (by first | assumption | exact ⟨by assumption, by assumption, by assumption⟩)).mono ?_); rintro e w5 ⟨rfl, hq2, hk5⟩; have hn2 := hq2 ⟨wr.heap.size, 0, none⟩; have hn3 := hq2 ⟨w3.heap.size, 0, none⟩; (try simp [hn1] at hn2); (try simp at hn3); clear hq2))
        all_goals (
          rename_i hHh
          obtain ⟨gE1, gE2, hbE⟩ := hHh
          have hbE2 := HBk.out.trans (hbE.mono HBk.out.size)
          have HB2 := Lib.hid hbE2
          clear hbE hbE2
          obtain ⟨sn, hsn⟩ : ∃ x, x = sa ++ x1 := ⟨_, rfl⟩
          have HAn : Hid (bytesN sn = dataL (q.take (k + 1))) := Lib.hid (by rw [HTA.out, hsn, bytesN_append])
          have hxx := HX1.out
          have haz : sn.size ≤ (k + 1) * 4194304 := by rw [hsn, ByteArray.size_append]; omega
          have ja : ∀ w : World, (Op.stringOp .add sa x1).run Try.prog w = .ok (.string sn) w := fun w => by rw [hsn]; exact run_string_add_sum w _ _ (by omega)
          clear hsn hcv j1 j2 j3 j4 HTA
          go_wp2_with fail
          go_roundw
          case rel => exact ⟨k + 1, s4, sn, by omega, by go_num, rfl, rfl, HDn, HAn, hdz, haz, HB2.out⟩
          case measure => simp [intOf]; omega)
      · have hkq : k = q.length := by omega
        have hq20 : q.length ≤ 64 := by rw [HQ.out.1.length_eq]; exact h64
        have HD2 : Hid (bytesN sd = dirL q) := Lib.hid (by rw [HD.out, hkq, List.take_length])
        have HA2 : Hid (bytesN sa = dataL q) := Lib.hid (by rw [HA.out, hkq, List.take_length])
        clear hkq HD HA HP3
        obtain ⟨m, hm⟩ : ∃ m, m = sd.size := ⟨_, rfl⟩
        have hml : m ≤ 67110400 := by omega
        have HM : Hid ((dirL q).length = m) := Lib.hid (by rw [← HD2.out, bytesN_length, hm])
        obtain ⟨xm, hxm⟩ : ∃ x, x = ones ^^^ m := ⟨_, rfl⟩
        have hx : bits BinOp.xor IntKind.u32 IntKind.u32.max (m : Int) = (xm : Int) := by rw [hxm]; exact xor_len m (by omega)
        obtain ⟨P1, hP1⟩ : ∃ P, P = ofN (put32 m) := ⟨_, rfl⟩
        obtain ⟨P2, hP2⟩ : ∃ P, P = ofN (put32 xm) := ⟨_, rfl⟩
        have y1 : P1.size = 4 := by rw [hP1, ofN_size]; rfl
        have y2 : P2.size = 4 := by rw [hP2, ofN_size]; rfl
        have y0 : (⟨#[79, 66, 80, 49]⟩ : ByteArray).size = 4 := rfl
        obtain ⟨s1, hs1⟩ : ∃ x, x = (⟨#[79, 66, 80, 49]⟩ : ByteArray) ++ P1 := ⟨_, rfl⟩
        obtain ⟨s2, hs2⟩ : ∃ x, x = s1 ++ P2 := ⟨_, rfl⟩
        obtain ⟨s3, hs3⟩ : ∃ x, x = s2 ++ sd := ⟨_, rfl⟩
        obtain ⟨cr, hcr⟩ : ∃ cr, cr = crcL (bytesN s3) := ⟨_, rfl⟩
        obtain ⟨P3, hP3⟩ : ∃ P, P = ofN (put32 cr) := ⟨_, rfl⟩
        obtain ⟨s4, hs4⟩ : ∃ x, x = s3 ++ P3 := ⟨_, rfl⟩
        obtain ⟨s5, hs5⟩ : ∃ x, x = s4 ++ sa := ⟨_, rfl⟩
        have y3 : P3.size = 4 := by rw [hP3, ofN_size]; rfl
        have q1 : s1.size = 8 := by rw [hs1, ByteArray.size_append, y0, y1]
        have q2 : s2.size = 12 := by rw [hs2, ByteArray.size_append, q1, y2]
        have q3 : s3.size = 12 + m := by rw [hs3, ByteArray.size_append, q2, hm]
        have q4 : s4.size = 16 + m := by rw [hs4, ByteArray.size_append, q3, y3]; omega
        have HH : Hid (bytesN s3 = headL q) := Lib.hid (by
          rw [hs3, hs2, hs1, bytesN_append, bytesN_append, bytesN_append, hP1, hP2, bytesN_ofN (put32_lt _), bytesN_ofN (put32_lt _), HD2.out]
          unfold headL
          rw [HM.out, hxm]
          rfl)
        have HEn : Hid (bytesN s5 = encL q) := Lib.hid (by
          rw [hs5, hs4, bytesN_append, bytesN_append, HH.out, hP3, bytesN_ofN (put32_lt _), HA2.out, hcr, HH.out]
          rfl)
        have hw32 : IntKind.u32.wrap (sd.size : Int) = (m : Int) := by rw [hm]; exact wrap_u32 _ (by omega)
        have j1 : ∀ w : World, (Op.stringOp .add (⟨#[79, 66, 80, 49]⟩ : ByteArray) P1).run Try.prog w = .ok (.string s1) w := fun w => by rw [hs1]; exact run_string_add_sum w _ _ (by rw [y0, y1]; omega)
        have j2 : ∀ w : World, (Op.stringOp .add s1 P2).run Try.prog w = .ok (.string s2) w := fun w => by rw [hs2]; exact run_string_add_sum w _ _ (by rw [q1, y2]; omega)
        have j3 : ∀ w : World, (Op.stringOp .add s2 sd).run Try.prog w = .ok (.string s3) w := fun w => by rw [hs3]; exact run_string_add_sum w _ _ (by rw [q2]; omega)
        have j4 : ∀ w : World, (Op.stringOp .add s3 P3).run Try.prog w = .ok (.string s4) w := fun w => by rw [hs4]; exact run_string_add_sum w _ _ (by rw [q3, y3]; omega)
        have j5 : ∀ w : World, (Op.stringOp .add s4 sa).run Try.prog w = .ok (.string s5) w := fun w => by rw [hs5]; exact run_string_add_sum w _ _ (by rw [q4]; omega)
        have CS : Hid (∀ W, Calls Try.prog 20 #[.string s3] W fun e w' => e = .returned (.int .u32 cr) ∧ W = w') := Lib.hid (fun W => by rw [hcr]; exact sum_any s3 W (by omega))
        have C1 := Lib.hid (fun W => put_det m P1 hP1 W)
        have C2 := Lib.hid (fun W => put_det xm P2 hP2 W)
        have C3 := Lib.hid (fun W => put_det cr P3 hP3 W)
        clear hs1 hs2 hs3 hs4 hs5 hP1 hP2 hP3 hcr hxm hm q1 q2 q3 q4 y0 y1 y2 y3 HH HD2 HA2 HM
        go_wp2_with fail
        refine (C1.out _).mono ?_
        rintro e w3 ⟨rfl, hk3⟩
        go_wp2_with fail
        refine (C2.out _).mono ?_
        rintro e w4 ⟨rfl, hk4⟩
        go_wp2_with fail
        refine (CS.out _).mono ?_
        rintro e w5 ⟨rfl, rfl⟩
        go_wp2_with fail
        refine (C3.out _).mono ?_
        rintro e w6 ⟨rfl, hk6⟩
        go_wp2_with fail
        go_ret2
        have hbb := hb2.trans (hb.mono hb2.size)
        have h3 := hbb.trans (hk3.mono hbb.size)
        have h4 := h3.trans (hk4.mono h3.size)
        exact ⟨_, _, rfl, ⟨HE.out.symm, fun hn => absurd HE.out hn, fun _ => ⟨q, HQ.out.1, HQ.out.2, HEn.out⟩⟩, h4.trans (hk6.mono h4.size)⟩
  · have HV : Hid (errE l ≠ 0) := Lib.hid he
    obtain ⟨z, hz⟩ : ∃ z, z = errE l := ⟨_, rfl⟩
    rw [← hz] at HC HV
    have hzb : (z == 0) = false := by simpa using HV.out
    have hz0 : z ≠ 0 := HV.out
    go_enter Try.func16, Try.ntmps16
    go_wp2_with fail
    refine HC.out.mono ?_
    rintro e w1 ⟨rfl, hk1⟩
    go_wp2_with fail
    go_ret2
    exact ⟨_, _, rfl, ⟨by first | rfl | exact hz, fun _ => rfl, fun h0 => absurd h0 he⟩, hk1⟩
end Go.Proofs.Ytdnaifkcogadkaa
