/- Walk: play. -/
import Derived.Test.YtpcjklfdgjeamaaR4
namespace Go.Proofs.Ytpcjklfdgjeamaa
open Go.RowKit

/-- An operation: its kind, where it begins, how far it goes, how many it inserts, its value. -/
structure Opn where
  kind : Nat
  frm : Nat
  to : Nat
  ins : Nat
  val : Int
  hk : kind < 256
  hf : frm < 256
  ht : to < 256
  hi : ins < 256
def encO (o : Opn) : List Value := [.int .u8 o.kind, .int .u8 o.frm, .int .u8 o.to, .int .u8 o.ins, .int .i64 o.val]
abbrev OpsV := Sl encO 5
theorem encO_int : AllInt encO := fun x u hu => by
  simp only [encO, List.mem_cons, List.not_mem_nil, or_false] at hu
  rcases hu with rfl | rfl | rfl | rfl | rfl <;> exact ⟨_, _, rfl⟩

theorem setV_length (l : List Int) (p q v : Int) : (setV l p q v).length = l.length := by
  unfold setV
  split
  · next h =>
    obtain ⟨h0, h1, h2⟩ := right_iff.1 h
    simp [spliceL]; omega
  · rfl
theorem addV_length (l : List Int) (p q v : Int) : (addV l p q v).length = l.length := by
  unfold addV
  split
  · next h =>
    obtain ⟨h0, h1, h2⟩ := right_iff.1 h
    simp [spliceL]; omega
  · rfl
theorem spliceL_length (l : List Int) (p q : Nat) (M : List Int) : (spliceL l p q M).length ≤ p + M.length + (l.length - q) := by
  simp [spliceL]; omega

/-- What play leaves: a map and its values. -/
def PlayPost (w : World) (e : Ending) (w' : World) : Prop :=
  ∃ m lv l, e = .returned (.tuple #[.pointer (some ⟨m, 0, none⟩), lv, .bool true]) ∧ w.heap.size ≤ m ∧ MapIs w' m l ∧ IntsV w' w'.heap.size lv l ∧ Nice lv ∧ l.length ≤ 1000 ∧ Below w.heap.size w w'

set_option maxRecDepth 100000 in
set_option maxHeartbeats 1000000 in
theorem play_any (len : Nat) (val : Int) (sv : Value) (ops : List Opn) (w : World) (hlen : len < 256) (hs : OpsV w w.heap.size sv ops) :
    Calls Try.prog 16 #[.agg #[.int .u8 len, .int .i64 val, sv]] w (PlayPost w) := by
  obtain ⟨A, c, rfl, hn, hc, hcl⟩ := id hs
  obtain ⟨W1, hW1⟩ : ∃ W1 : World, W1 = w.alloc (.cells #[.int .u8 len, .int .i64 val, .slice A ops.length c] 35) := ⟨_, rfl⟩
  have bW : Below w.heap.size w W1 := by rw [hW1]; exact (Below.refl _ _).alloc (Nat.le_refl _) _
  have hblk : W1.heap[w.heap.size]? = some (.cells #[.int .u8 len, .int .i64 val, .slice A ops.length c] 35 (0, 0)) := by rw [hW1]; exact heap_alloc_new _ _
  obtain ⟨pb, hpb⟩ : ∃ pb, pb = w.heap.size := ⟨_, rfl⟩
  have HPB := Lib.hid hpb
  have HW := Lib.hid hW1.symm
  have c0 : W1.cell? ⟨w.heap.size, 0, none⟩ = some (.int .u8 len) := blk_cell hblk 0
  have c1 : W1.cell? ⟨w.heap.size, 1, none⟩ = some (.int .i64 val) := blk_cell hblk 1
  have c2 : W1.cell? ⟨w.heap.size, 2, none⟩ = some (.slice A ops.length c) := blk_cell hblk 2
  have hsz : w.heap.size < W1.heap.size := lt_of_block hblk
  have HS := Lib.hid ((hs.below bW).more bW.size)
  have hwl : wrap64 (len : Int) = (len : Int) := by rw [← wrap64_eq]; exact IntWalk.i64_in _ (by omega)
  have hwl2 : IntKind.i64.wrap (len : Int) = (len : Int) := IntWalk.i64_in _ (by omega)
  clear hs hcl hW1 hblk hpb
  go_enter Try.func16, Try.ntmps16
  go_wp2_with fail
  rw [HW.out]
  refine (new_ok len val W1 (by omega) (by omega)).mono ?_
  rintro e w2 ⟨m, rfl, hm, m2, b2⟩
  have d0 := cell_over c0 b2
  have d1 := cell_over c1 b2
  have d2 := cell_over c2 b2
  go_wp2_with fail
  refine (rnew_any len val w2 (by omega)).mono ?_
  rintro e w3 ⟨lv, rfl, o3, b3⟩
  have f2 := cell_over d2 b3
  have m3 := m2.below b3
  have s3 := o3.sl encI_length
  have n3 := o3.nice
  have hnl : (newL len val).length = len := by simp [newL]
  have b13 := b2.trans (b3.mono b2.size)
  clear c0 c1 c2 d0 d1 d2 m2 o3 b2 b3
  go_wp2_with fail
  refine (is_any m lv _ w3 m3 s3 (by rw [hnl]; omega)).mono ?_
  rintro e w4 ⟨rfl, b4⟩
  have m4 := m3.below b4
  have s4 := s3.over b4
  have f4 := cell_over f2 b4
  have b14 := b13.trans (b4.mono b13.size)
  clear m3 s3 b13 b4 f2
  obtain ⟨l, hl⟩ : ∃ l, l = newL len val := ⟨_, rfl⟩
  rw [← hl] at m4 s4 hnl
  have HB4 := Lib.hid b14
  have hmW : W1.heap.size ≤ m := hm
  clear hl b14 hm hwl hwl2
  go_wp2_with fail
  go_loopw [7, 8] (fun lv iv wr => ∃ (k : Nat) (l : List Int), k ≤ 30 ∧ iv = .int .i64 k ∧ MapIs wr m l ∧ IntsV wr wr.heap.size lv l ∧ Nice lv ∧ l.length ≤ 255 + 19 * k ∧ Below W1.heap.size W1 wr ∧ wr.cell? ⟨w.heap.size, 2, none⟩ = some (.slice A ops.length c)) (fun _ iv _ => (30 - intOf iv).toNat)
  case atStart => exact ⟨0, l, by omega, rfl, m4, s4, n3, by omega, HB4.out, f4⟩
  case round =>
    clear m4 s4 n3 hnl f4 HB4
    obtain ⟨k, l, hk, rfl, hm, hl, hnice, hll, hbr, f4⟩ := hrel
    have hbz := hbr.size
    by_cases hgo : k < ops.length ∧ k < 30
    · obtain ⟨hk1, hk2⟩ := hgo
      obtain ⟨A2, c2', he2, hc2', hcm2, hcl⟩ := HS.out.below hbr
      injection he2 with he2 _ cap_eq
      subst he2
      obtain ⟨b, o, rfl, hbB, hcell⟩ := hcl (by omega)
      have g0 := hcell k ops[k] (by simp) 0 _ rfl
      have g1 := hcell k ops[k] (by simp) 1 _ rfl
      have g2 := hcell k ops[k] (by simp) 2 _ rfl
      have g3 := hcell k ops[k] (by simp) 3 _ rfl
      have g4 := hcell k ops[k] (by simp) 4 _ rfl
      simp only [Nat.add_zero] at g0
      obtain ⟨x, hx⟩ : ∃ x, x = ops[k] := ⟨_, rfl⟩
      rw [← hx] at g0 g1 g2 g3 g4
      clear hcell hx hcl
      obtain ⟨kd, fr, to, ins, v, hkd, hfr, hto, hins⟩ := x
      simp only at g0 g1 g2 g3 g4
      obtain ⟨n, hn'⟩ : ∃ n, n = l.length := ⟨_, rfl⟩
      obtain ⟨Al, cl, rfl, hlc, hclm, hzz⟩ := id hl
      clear hzz
      rw [← hn'] at hl hll hlc hnice ⊢
      have HN := Lib.hid hn'
      clear hn'
      obtain ⟨f, hf⟩ : ∃ f, f = fr % (n + 1) := ⟨_, rfl⟩
      have hfn : f ≤ n := by have := Nat.mod_lt fr (show 0 < n + 1 by omega); omega
      obtain ⟨x, hx⟩ : ∃ x, x = to % (n - f + 2) := ⟨_, rfl⟩
      have hxn : x ≤ n - f + 1 := by have := Nat.mod_lt to (show 0 < n - f + 2 by omega); omega
      have hf1 : (fr : Int) % ((n : Int) + 1) = (f : Int) := by rw [hf]; exact (Int.natCast_emod fr (n + 1)).symm
      have hx1 : (to : Int) % ((n : Int) - (f : Int) + 2) = (x : Int) := by
        rw [hx, show (n : Int) - (f : Int) + 2 = ((n - f + 2 : Nat) : Int) by omega]; exact (Int.natCast_emod to _).symm
      have z1 : ¬ ((n : Int) + 1 = 0) := by omega
      have z2 : ¬ ((n : Int) - (f : Int) + 2 = 0) := by omega
      have hxI : (f : Int) + (x : Int) ≤ (n : Int) + 1 := by omega
      have hnb : n ≤ 1000 := by omega
      have HLL := Lib.hid hll
      have HK1 := Lib.hid hk1
      clear hf hx hxn hll hk1 hlc hn hlen hkd hc2' hcm2 hc hclm cap_eq
      go_wp2_with fail
      obtain ⟨W5, hW5⟩ : ∃ W5 : World, W5 = wr.alloc (.cells #[.int .u8 kd, .int .u8 fr, .int .u8 to, .int .u8 ins, .int .i64 v] 82) := ⟨_, rfl⟩
      have b5 : Below wr.heap.size wr W5 := by rw [hW5]; exact (Below.refl _ _).alloc (Nat.le_refl _) _
      have hblk : W5.heap[wr.heap.size]? = some (.cells #[.int .u8 kd, .int .u8 fr, .int .u8 to, .int .u8 ins, .int .i64 v] 82 (0, 0)) := by rw [hW5]; exact heap_alloc_new _ _
      obtain ⟨B9, hB9⟩ : ∃ B, B = wr.heap.size := ⟨_, rfl⟩
      have hmB : m ≠ B9 := by have := hm.lt; omega
      have hmp : w.heap.size ≠ m := by omega
      rw [← hB9] at hblk
      rw [← hW5, ← hB9]
      have e0 : W5.cell? ⟨B9, 0, none⟩ = some (.int .u8 kd) := blk_cell hblk 0
      have e3 : W5.cell? ⟨B9, 3, none⟩ = some (.int .u8 ins) := blk_cell hblk 3
      have e4 : W5.cell? ⟨B9, 4, none⟩ = some (.int .i64 v) := blk_cell hblk 4
      have m5 := hm.below b5
      have l5 := hl.over b5
      have f5 := cell_over f4 b5
      have br5 : Below W1.heap.size W1 W5 := hbr.trans (b5.mono hbr.size)
      obtain ⟨iv, hiv⟩ : ∃ iv, iv = ins % 20 := ⟨_, rfl⟩
      have hivI : (ins : Int) % 20 = (iv : Int) := by omega
      have hiv20 : iv < 20 := by omega
      have HH := Lib.hid (And.intro hmB hmp)
      have hxx : (f : Int) + (x : Int) - (f : Int) = (x : Int) := by omega
      clear hW5 hB9 b5 hblk hm hl f4 hbr hmB hmp hiv g0 g1 g2 g3 g4 hbB hbz z1 z2 hf1 hx1
      by_cases hr : (f : Int) + (x : Int) ≤ (n : Int)
      · have HRB : Hid (rightB n f ((f : Int) + x) = true) := Lib.hid (by rw [right_iff]; omega)
        refine (rright_any _ _ _ W5).mono ?_
        rintro e w' ⟨rfl, rfl⟩
        rw [HRB.out]
        have hk4 : kd % 4 = 0 ∨ kd % 4 = 1 ∨ kd % 4 = 2 ∨ kd % 4 = 3 := by omega
        rcases hk4 with hk4 | hk4 | hk4 | hk4
        · -- kind 0, right
          have hkI : (kd : Int) % 4 = 0 := by omega
          clear hk4
          have HC : Hid (Calls Try.prog 23 #[.pointer (some ⟨m, 0, none⟩), .int .i64 f, .int .i64 ((f : Int) + x), .int .i64 v] W5 fun e w' => e = .returned (.int .i64 0) ∧ W5.grownBy w' (some m) ∧ MapIs w' m (setV l f ((f : Int) + x) v)) := Lib.hid (by
            have := set_any m l f ((f : Int) + x) v W5 m5 (by have := HN.out; omega)
            rwa [rightE, ← HN.out, HRB.out] at this)
          have HLEN : Hid ((setV l f ((f : Int) + x) v).length = n) := Lib.hid (by rw [setV_length]; exact HN.out.symm)
          have HRR : Hid (rightB l.length f ((f : Int) + x) = true) := Lib.hid (by rw [← HN.out]; exact HRB.out)
          go_wp2_with fail
          refine HC.out.mono ?_
          rintro e w6 ⟨rfl, g6, m6⟩
          have k3 := g6.cell e3 (by intro h; injection h with h; exact HH.out.1 h.symm)
          have k4 := g6.cell e4 (by intro h; injection h with h; exact HH.out.1 h.symm)
          have f6 := g6.cell f5 (by intro h; injection h with h; exact HH.out.2 h)
          have l6 := l5.besides encI_int m5 g6
          have br6 := br5.grown g6 br5.size (fun q hq => by injection hq with hq; omega)
          clear m5 l5 f5 br5 e0 e3 e4 g6 HC
          go_wp2_with fail
          refine (rset_any _ l f ((f : Int) + x) v w6 l6 (by have := HN.out; omega) HRR.out).mono ?_
          rintro e w7 ⟨lv', rfl, o7, b7⟩
          have m7 := m6.below b7
          have f7 := cell_over f6 b7
          have br7 := br6.trans (b7.mono br6.size)
          have s7 := o7.sl encI_length
          have n7 := o7.nice
          clear m6 f6 br6 b7 o7 l6 k3 k4 hnice
          go_wp2_with fail
          refine (is_any m lv' _ w7 m7 s7 (by have := HLEN.out; omega)).mono ?_
          rintro e w8 ⟨rfl, b8⟩
          have m8 := m7.below b8
          have s8 := s7.over b8
          have f8 := cell_over f7 b8
          have br8 := br7.trans (b8.mono br7.size)
          clear m7 s7 f7 br7 b8
          go_wp2
          go_roundw
          case rel => exact ⟨k + 1, _, by omega, by go_num, m8, s8, n7, by have := HLEN.out; have := HLL.out; omega, br8, f8⟩
          case measure => simp [intOf]; omega
        · -- kind 1, right
          have hkI : (kd : Int) % 4 = 1 := by omega
          clear hk4
          have HC : Hid (Calls Try.prog 34 #[.pointer (some ⟨m, 0, none⟩), .int .i64 f, .int .i64 ((f : Int) + x), .int .i64 v] W5 fun e w' => e = .returned (.int .i64 0) ∧ W5.grownBy w' (some m) ∧ MapIs w' m (addV l f ((f : Int) + x) v)) := Lib.hid (by
            have := add_any m l f ((f : Int) + x) v W5 m5 (by have := HN.out; omega)
            rwa [rightE, ← HN.out, HRB.out] at this)
          have HLEN : Hid ((addV l f ((f : Int) + x) v).length = n) := Lib.hid (by rw [addV_length]; exact HN.out.symm)
          have HRR : Hid (rightB l.length f ((f : Int) + x) = true) := Lib.hid (by rw [← HN.out]; exact HRB.out)
          go_wp2_with fail
          refine HC.out.mono ?_
          rintro e w6 ⟨rfl, g6, m6⟩
          have k3 := g6.cell e3 (by intro h; injection h with h; exact HH.out.1 h.symm)
          have k4 := g6.cell e4 (by intro h; injection h with h; exact HH.out.1 h.symm)
          have f6 := g6.cell f5 (by intro h; injection h with h; exact HH.out.2 h)
          have l6 := l5.besides encI_int m5 g6
          have br6 := br5.grown g6 br5.size (fun q hq => by injection hq with hq; omega)
          clear m5 l5 f5 br5 e0 e3 e4 g6 HC
          go_wp2_with fail
          refine (radd_any _ l f ((f : Int) + x) v w6 l6 (by have := HN.out; omega) HRR.out).mono ?_
          rintro e w7 ⟨lv', rfl, o7, b7⟩
          have m7 := m6.below b7
          have f7 := cell_over f6 b7
          have br7 := br6.trans (b7.mono br6.size)
          have s7 := o7.sl encI_length
          have n7 := o7.nice
          clear m6 f6 br6 b7 o7 l6 k3 k4 hnice
          go_wp2_with fail
          refine (is_any m lv' _ w7 m7 s7 (by have := HLEN.out; omega)).mono ?_
          rintro e w8 ⟨rfl, b8⟩
          have m8 := m7.below b8
          have s8 := s7.over b8
          have f8 := cell_over f7 b8
          have br8 := br7.trans (b8.mono br7.size)
          clear m7 s7 f7 br7 b8
          go_wp2
          go_roundw
          case rel => exact ⟨k + 1, _, by omega, by go_num, m8, s8, n7, by have := HLEN.out; have := HLL.out; omega, br8, f8⟩
          case measure => simp [intOf]; omega
        · -- kind 2, right
          have hkI : (kd : Int) % 4 = 2 := by omega
          clear hk4
          have hE : spliceE n f x iv = 0 := by rw [spliceE, if_neg (by omega), if_neg (by omega)]
          have HC : Hid (Calls Try.prog 26 #[.pointer (some ⟨m, 0, none⟩), .int .i64 f, .int .i64 x, .int .i64 iv, .int .i64 v] W5 fun e w' => e = .returned (.int .i64 0) ∧ W5.grownBy w' (some m) ∧ MapIs w' m (spliceV l f x iv v)) := Lib.hid (by
            have := splice_any m l f x iv v W5 m5 (by have := HN.out; omega)
            rwa [← HN.out, hE] at this)
          have HSV : Hid (spliceV l f x iv v = spliceL l f ((f : Int) + x).toNat (newL iv v)) := Lib.hid (by rw [spliceV, ← HN.out, hE]; rfl)
          have HLEN : Hid ((spliceV l f x iv v).length ≤ n + 19) := Lib.hid (by rw [HSV.out]; have := spliceL_length l f ((f : Int) + x).toNat (newL iv v); rw [newL, List.length_replicate] at this; have := HN.out; unfold newL; omega)
          have HRN : Hid ((f : Int) + x ≤ l.length) := Lib.hid (by have := HN.out; omega)
          clear hE
          go_wp2_with fail
          refine HC.out.mono ?_
          rintro e w6 ⟨rfl, g6, m6⟩
          have k3 := g6.cell e3 (by intro h; injection h with h; exact HH.out.1 h.symm)
          have k4 := g6.cell e4 (by intro h; injection h with h; exact HH.out.1 h.symm)
          have f6 := g6.cell f5 (by intro h; injection h with h; exact HH.out.2 h)
          have l6 := l5.besides encI_int m5 g6
          have br6 := br5.grown g6 br5.size (fun q hq => by injection hq with hq; omega)
          clear m5 l5 f5 br5 e0 e3 e4 g6 HC
          go_wp2_with fail
          refine (rsplice_any _ l f x iv v w6 l6 hnice (by have := HN.out; omega) (by omega) (by omega) HRN.out (by omega)).mono ?_
          rintro e w7 ⟨lv', rfl, o7, b7⟩
          rw [Int.toNat_natCast, ← HSV.out] at o7
          have m7 := m6.below b7
          have f7 := cell_over f6 b7
          have br7 := br6.trans (b7.mono br6.size)
          have s7 := o7.sl encI_length
          have n7 := o7.nice
          clear m6 f6 br6 b7 o7 l6 k3 k4 hnice
          go_wp2_with fail
          refine (is_any m lv' _ w7 m7 s7 (by have := HLEN.out; omega)).mono ?_
          rintro e w8 ⟨rfl, b8⟩
          have m8 := m7.below b8
          have s8 := s7.over b8
          have f8 := cell_over f7 b8
          have br8 := br7.trans (b8.mono br7.size)
          clear m7 s7 f7 br7 b8
          go_wp2
          go_roundw
          case rel => exact ⟨k + 1, _, by omega, by go_num, m8, s8, n7, by have := HLEN.out; have := HLL.out; omega, br8, f8⟩
          case measure => simp [intOf]; omega
        · -- kind 3, right
          have hkI : (kd : Int) % 4 = 3 := by omega
          clear hk4
          have hE : spliceE n f 0 iv = 0 := by rw [spliceE, if_neg (by omega), if_neg (by omega)]
          have HC : Hid (Calls Try.prog 26 #[.pointer (some ⟨m, 0, none⟩), .int .i64 f, .int .i64 0, .int .i64 iv, .int .i64 v] W5 fun e w' => e = .returned (.int .i64 0) ∧ W5.grownBy w' (some m) ∧ MapIs w' m (spliceV l f 0 iv v)) := Lib.hid (by
            have := splice_any m l f 0 iv v W5 m5 (by have := HN.out; omega)
            rwa [← HN.out, hE] at this)
          have HSV : Hid (spliceV l f 0 iv v = spliceL l f ((f : Int) + 0).toNat (newL iv v)) := Lib.hid (by rw [spliceV, ← HN.out, hE]; rfl)
          have HLEN : Hid ((spliceV l f 0 iv v).length ≤ n + 19) := Lib.hid (by rw [HSV.out]; have := spliceL_length l f ((f : Int) + 0).toNat (newL iv v); rw [newL, List.length_replicate] at this; have := HN.out; unfold newL; omega)
          have HRN : Hid ((f : Int) + 0 ≤ l.length) := Lib.hid (by have := HN.out; omega)
          clear hE
          go_wp2_with fail
          refine HC.out.mono ?_
          rintro e w6 ⟨rfl, g6, m6⟩
          have k3 := g6.cell e3 (by intro h; injection h with h; exact HH.out.1 h.symm)
          have k4 := g6.cell e4 (by intro h; injection h with h; exact HH.out.1 h.symm)
          have f6 := g6.cell f5 (by intro h; injection h with h; exact HH.out.2 h)
          have l6 := l5.besides encI_int m5 g6
          have br6 := br5.grown g6 br5.size (fun q hq => by injection hq with hq; omega)
          clear m5 l5 f5 br5 e0 e3 e4 g6 HC
          go_wp2_with fail
          refine (rsplice_any _ l f 0 iv v w6 l6 hnice (by have := HN.out; omega) (by omega) (by omega) HRN.out (by omega)).mono ?_
          rintro e w7 ⟨lv', rfl, o7, b7⟩
          rw [Int.toNat_natCast, ← HSV.out] at o7
          have m7 := m6.below b7
          have f7 := cell_over f6 b7
          have br7 := br6.trans (b7.mono br6.size)
          have s7 := o7.sl encI_length
          have n7 := o7.nice
          clear m6 f6 br6 b7 o7 l6 k3 k4 hnice
          go_wp2_with fail
          refine (is_any m lv' _ w7 m7 s7 (by have := HLEN.out; omega)).mono ?_
          rintro e w8 ⟨rfl, b8⟩
          have m8 := m7.below b8
          have s8 := s7.over b8
          have f8 := cell_over f7 b8
          have br8 := br7.trans (b8.mono br7.size)
          clear m7 s7 f7 br7 b8
          go_wp2
          go_roundw
          case rel => exact ⟨k + 1, _, by omega, by go_num, m8, s8, n7, by have := HLEN.out; have := HLL.out; omega, br8, f8⟩
          case measure => simp [intOf]; omega
      · have HRB : Hid (rightB n f ((f : Int) + x) = false) := Lib.hid (by rw [Bool.eq_false_iff, ne_eq, right_iff]; omega)
        refine (rright_any _ _ _ W5).mono ?_
        rintro e w' ⟨rfl, rfl⟩
        rw [HRB.out]
        have hk4 : kd % 4 = 0 ∨ kd % 4 = 1 ∨ kd % 4 = 2 ∨ kd % 4 = 3 := by omega
        rcases hk4 with hk4 | hk4 | hk4 | hk4
        · -- kind 0, wrong
          have hkI : (kd : Int) % 4 = 0 := by omega
          clear hk4
          have HC : Hid (Calls Try.prog 23 #[.pointer (some ⟨m, 0, none⟩), .int .i64 f, .int .i64 ((f : Int) + x), .int .i64 v] W5 fun e w' => e = .returned (.int .i64 2) ∧ W5.grownBy w' (some m) ∧ MapIs w' m (setV l f ((f : Int) + x) v)) := Lib.hid (by
            have := set_any m l f ((f : Int) + x) v W5 m5 (by have := HN.out; omega)
            rwa [rightE, ← HN.out, HRB.out] at this)
          have HSAME : Hid (setV l f ((f : Int) + x) v = l) := Lib.hid (by rw [setV, ← HN.out, HRB.out]; rfl)
          go_wp2_with fail
          refine HC.out.mono ?_
          rintro e w6 ⟨rfl, g6, m6⟩
          have k3 := g6.cell e3 (by intro h; injection h with h; exact HH.out.1 h.symm)
          have k4 := g6.cell e4 (by intro h; injection h with h; exact HH.out.1 h.symm)
          have f6 := g6.cell f5 (by intro h; injection h with h; exact HH.out.2 h)
          have l6 := l5.besides encI_int m5 g6
          have br6 := br5.grown g6 br5.size (fun q hq => by injection hq with hq; omega)
          clear m5 l5 f5 br5 e0 e3 e4 g6 HC
          rw [HSAME.out] at m6
          clear HSAME k3 k4
          go_wp2_with fail
          refine (is_any m _ l w6 m6 l6 (by have := HN.out; omega)).mono ?_
          rintro e w8 ⟨rfl, b8⟩
          have m8 := m6.below b8
          have s8 := l6.over b8
          have f8 := cell_over f6 b8
          have br8 := br6.trans (b8.mono br6.size)
          clear m6 l6 f6 br6 b8
          go_wp2
          go_roundw
          case rel => exact ⟨k + 1, l, by omega, by go_num, m8, s8, hnice, by have := HN.out; have := HLL.out; omega, br8, f8⟩
          case measure => simp [intOf]; omega
        · -- kind 1, wrong
          have hkI : (kd : Int) % 4 = 1 := by omega
          clear hk4
          have HC : Hid (Calls Try.prog 34 #[.pointer (some ⟨m, 0, none⟩), .int .i64 f, .int .i64 ((f : Int) + x), .int .i64 v] W5 fun e w' => e = .returned (.int .i64 2) ∧ W5.grownBy w' (some m) ∧ MapIs w' m (addV l f ((f : Int) + x) v)) := Lib.hid (by
            have := add_any m l f ((f : Int) + x) v W5 m5 (by have := HN.out; omega)
            rwa [rightE, ← HN.out, HRB.out] at this)
          have HSAME : Hid (addV l f ((f : Int) + x) v = l) := Lib.hid (by rw [addV, ← HN.out, HRB.out]; rfl)
          go_wp2_with fail
          refine HC.out.mono ?_
          rintro e w6 ⟨rfl, g6, m6⟩
          have k3 := g6.cell e3 (by intro h; injection h with h; exact HH.out.1 h.symm)
          have k4 := g6.cell e4 (by intro h; injection h with h; exact HH.out.1 h.symm)
          have f6 := g6.cell f5 (by intro h; injection h with h; exact HH.out.2 h)
          have l6 := l5.besides encI_int m5 g6
          have br6 := br5.grown g6 br5.size (fun q hq => by injection hq with hq; omega)
          clear m5 l5 f5 br5 e0 e3 e4 g6 HC
          rw [HSAME.out] at m6
          clear HSAME k3 k4
          go_wp2_with fail
          refine (is_any m _ l w6 m6 l6 (by have := HN.out; omega)).mono ?_
          rintro e w8 ⟨rfl, b8⟩
          have m8 := m6.below b8
          have s8 := l6.over b8
          have f8 := cell_over f6 b8
          have br8 := br6.trans (b8.mono br6.size)
          clear m6 l6 f6 br6 b8
          go_wp2
          go_roundw
          case rel => exact ⟨k + 1, l, by omega, by go_num, m8, s8, hnice, by have := HN.out; have := HLL.out; omega, br8, f8⟩
          case measure => simp [intOf]; omega
        · -- kind 2, wrong
          have hkI : (kd : Int) % 4 = 2 := by omega
          clear hk4
          have hE : spliceE n f x iv = 2 := by rw [spliceE, if_pos (by omega)]
          have HC : Hid (Calls Try.prog 26 #[.pointer (some ⟨m, 0, none⟩), .int .i64 f, .int .i64 x, .int .i64 iv, .int .i64 v] W5 fun e w' => e = .returned (.int .i64 2) ∧ W5.grownBy w' (some m) ∧ MapIs w' m (spliceV l f x iv v)) := Lib.hid (by
            have := splice_any m l f x iv v W5 m5 (by have := HN.out; omega)
            rwa [← HN.out, hE] at this)
          have HSAME : Hid (spliceV l f x iv v = l) := Lib.hid (by rw [spliceV, ← HN.out, hE]; rfl)
          clear hE
          go_wp2_with fail
          refine HC.out.mono ?_
          rintro e w6 ⟨rfl, g6, m6⟩
          have k3 := g6.cell e3 (by intro h; injection h with h; exact HH.out.1 h.symm)
          have k4 := g6.cell e4 (by intro h; injection h with h; exact HH.out.1 h.symm)
          have f6 := g6.cell f5 (by intro h; injection h with h; exact HH.out.2 h)
          have l6 := l5.besides encI_int m5 g6
          have br6 := br5.grown g6 br5.size (fun q hq => by injection hq with hq; omega)
          clear m5 l5 f5 br5 e0 e3 e4 g6 HC
          rw [HSAME.out] at m6
          clear HSAME k3 k4
          go_wp2_with fail
          refine (is_any m _ l w6 m6 l6 (by have := HN.out; omega)).mono ?_
          rintro e w8 ⟨rfl, b8⟩
          have m8 := m6.below b8
          have s8 := l6.over b8
          have f8 := cell_over f6 b8
          have br8 := br6.trans (b8.mono br6.size)
          clear m6 l6 f6 br6 b8
          go_wp2
          go_roundw
          case rel => exact ⟨k + 1, l, by omega, by go_num, m8, s8, hnice, by have := HN.out; have := HLL.out; omega, br8, f8⟩
          case measure => simp [intOf]; omega
        · -- kind 3, wrong
          have hkI : (kd : Int) % 4 = 3 := by omega
          clear hk4
          have hE : spliceE n f 0 iv = 0 := by rw [spliceE, if_neg (by omega), if_neg (by omega)]
          have HC : Hid (Calls Try.prog 26 #[.pointer (some ⟨m, 0, none⟩), .int .i64 f, .int .i64 0, .int .i64 iv, .int .i64 v] W5 fun e w' => e = .returned (.int .i64 0) ∧ W5.grownBy w' (some m) ∧ MapIs w' m (spliceV l f 0 iv v)) := Lib.hid (by
            have := splice_any m l f 0 iv v W5 m5 (by have := HN.out; omega)
            rwa [← HN.out, hE] at this)
          have HSV : Hid (spliceV l f 0 iv v = spliceL l f ((f : Int) + 0).toNat (newL iv v)) := Lib.hid (by rw [spliceV, ← HN.out, hE]; rfl)
          have HLEN : Hid ((spliceV l f 0 iv v).length ≤ n + 19) := Lib.hid (by rw [HSV.out]; have := spliceL_length l f ((f : Int) + 0).toNat (newL iv v); rw [newL, List.length_replicate] at this; have := HN.out; unfold newL; omega)
          have HRN : Hid ((f : Int) + 0 ≤ l.length) := Lib.hid (by have := HN.out; omega)
          clear hE
          go_wp2_with fail
          refine HC.out.mono ?_
          rintro e w6 ⟨rfl, g6, m6⟩
          have k3 := g6.cell e3 (by intro h; injection h with h; exact HH.out.1 h.symm)
          have k4 := g6.cell e4 (by intro h; injection h with h; exact HH.out.1 h.symm)
          have f6 := g6.cell f5 (by intro h; injection h with h; exact HH.out.2 h)
          have l6 := l5.besides encI_int m5 g6
          have br6 := br5.grown g6 br5.size (fun q hq => by injection hq with hq; omega)
          clear m5 l5 f5 br5 e0 e3 e4 g6 HC
          go_wp2_with fail
          refine (rsplice_any _ l f 0 iv v w6 l6 hnice (by have := HN.out; omega) (by omega) (by omega) HRN.out (by omega)).mono ?_
          rintro e w7 ⟨lv', rfl, o7, b7⟩
          rw [Int.toNat_natCast, ← HSV.out] at o7
          have m7 := m6.below b7
          have f7 := cell_over f6 b7
          have br7 := br6.trans (b7.mono br6.size)
          have s7 := o7.sl encI_length
          have n7 := o7.nice
          clear m6 f6 br6 b7 o7 l6 k3 k4 hnice
          go_wp2_with fail
          refine (is_any m lv' _ w7 m7 s7 (by have := HLEN.out; omega)).mono ?_
          rintro e w8 ⟨rfl, b8⟩
          have m8 := m7.below b8
          have s8 := s7.over b8
          have f8 := cell_over f7 b8
          have br8 := br7.trans (b8.mono br7.size)
          clear m7 s7 f7 br7 b8
          go_wp2
          go_roundw
          case rel => exact ⟨k + 1, _, by omega, by go_num, m8, s8, n7, by have := HLEN.out; have := HLL.out; omega, br8, f8⟩
          case measure => simp [intOf]; omega
    · have hmm : w.heap.size ≤ m := by omega
      have HFIN : Hid (PlayPost w (.returned (.tuple #[.pointer (some ⟨m, 0, none⟩), u7, .bool true])) wr) := Lib.hid ⟨m, u7, l, rfl, hmm, hm, hl, hnice, by omega, bW.trans (hbr.mono bW.size)⟩
      obtain ⟨Al, cl, rfl, _, _, hzz⟩ := id hl
      clear hzz hm hl hnice
      by_cases h1 : k < ops.length
      · have h2 : ¬ k < 30 := fun h => hgo ⟨h1, h⟩
        clear hgo
        go_wp2
        go_ret3
        exact HFIN.out
      · clear hgo
        go_wp2
        go_ret3
        exact HFIN.out
end Go.Proofs.Ytpcjklfdgjeamaa
