/- Walk: the law's own directory. -/
import Derived.Test.YtdnaifkcogadkaaR4
import Derived.Test.YtdnaifkcogadkaaR2
namespace Go.Proofs.Ytdnaifkcogadkaa
open Go.RowKit

theorem withOff_at (a : Nat) (p : List Ent) (x : Ent) (r : List Ent) : (withOff a (p ++ x :: r))[p.length]? = some (x, a + sizes p) := by
  rw [withOff_append, List.getElem?_append_right (by rw [withOff_length]; exact Nat.le_refl _), withOff_length]
  simp [withOff]
theorem get4_sub (s : ByteArray) (k : Nat) : get4 (bytesN (s.extract k s.size)) 0 = get4 (bytesN s) k := by
  rw [bytesN_extract, List.take_of_length_le (by rw [bytesN_length]; exact Nat.le_refl _), get4_drop, Nat.add_zero]

set_option maxRecDepth 100000 in
set_option maxHeartbeats 8000000 in
theorem directory_ref (s : ByteArray) (w : World) (hs : s.size ≤ 1048576000) :
    Calls Try.prog 22 #[.string s] w fun e w' => ∃ v n, e = .returned (.tuple #[v, .int .i64 n]) ∧ DirPost (bytesN s) v n w' ∧ Below w.heap.size w w' := by
  have hlen := bytesN_length s
  by_cases h1 : s.size < 12
  · have HD := Lib.hid (dirE_1 (l := bytesN s) (by omega))
    clear hlen
    go_enter Try.func22, Try.ntmps22
    go_wp2_with fail
    go_ret2
    exact ⟨_, _, rfl, dirPost_bad HD.out (by decide), Below.refl _ _⟩
  have h1' : ¬ (bytesN s).length < 12 := by omega
  have k4 : (4 : Int) ≤ s.size := by omega
  have k8 : (8 : Int) ≤ s.size := by omega
  obtain ⟨m4, hm4⟩ : ∃ m, m = s.extract 0 4 := ⟨_, rfl⟩
  have hm4' := hm4.symm
  have HM := Lib.hid (magic_iff s)
  by_cases h2 : m4 = ⟨#[79, 66, 80, 49]⟩
  case neg =>
    have HD := Lib.hid (dirE_2 h1' (fun h => h2 (by rw [hm4]; exact (magic_iff s).1 h)))
    have hq : (m4.toList == [79, 66, 80, 49]) = false := by rw [← magic_list]; exact lists_ne h2
    clear hlen hm4 h1' h2
    go_enter Try.func22, Try.ntmps22
    go_wp2_with fail
    go_ret2
    exact ⟨_, _, rfl, dirPost_bad HD.out (by decide), Below.refl _ _⟩
  subst h2
  have H2 : Hid ((bytesN s).take 4 = magicL) := Lib.hid (HM.out.2 hm4')
  clear hm4 HM
  obtain ⟨a4, ha4⟩ : ∃ n, n = get4 (bytesN s) 4 := ⟨_, rfl⟩
  obtain ⟨a8, ha8⟩ : ∃ n, n = get4 (bytesN s) 8 := ⟨_, rfl⟩
  have HA4 := Lib.hid ha4
  have HA8 := Lib.hid ha8
  have la4 : a4 < 4294967296 := by rw [ha4]; exact get4_lt (bytesN_lt s) _
  have la8 : a8 < 4294967296 := by rw [ha8]; exact get4_lt (bytesN_lt s) _
  obtain ⟨xa, hxa⟩ : ∃ n, n = ones ^^^ a4 := ⟨_, rfl⟩
  have HXA := Lib.hid hxa
  have hx : bits BinOp.xor IntKind.u32 IntKind.u32.max (a4 : Int) = (xa : Int) := by rw [hxa]; exact xor_len a4 la4
  obtain ⟨d4, hd4⟩ : ∃ d, d = s.extract 4 s.size := ⟨_, rfl⟩
  obtain ⟨d8, hd8⟩ : ∃ d, d = s.extract 8 s.size := ⟨_, rfl⟩
  have hz4 : d4.size = s.size - 4 := by rw [hd4, ByteArray.size_extract]; omega
  have hz8 : d8.size = s.size - 8 := by rw [hd8, ByteArray.size_extract]; omega
  have C4 : Hid (∀ W, Calls Try.prog 43 #[.string d4] W fun e w' => e = .returned (.int .u32 a4) ∧ ∃ k, w' = W.drewN k) := Lib.hid (fun W => by rw [ha4, ← get4_sub, ← hd4]; exact get_any d4 W (by omega) (by omega))
  have C8 : Hid (∀ W, Calls Try.prog 43 #[.string d8] W fun e w' => e = .returned (.int .u32 a8) ∧ ∃ k, w' = W.drewN k) := Lib.hid (fun W => by rw [ha8, ← get4_sub, ← hd8]; exact get_any d8 W (by omega) (by omega))
  have hd4' := hd4.symm
  have hd8' := hd8.symm
  clear hxa ha4 ha8 hd4 hd8 hz4 hz8
  have HL := Lib.hid hlen
  have H1 := Lib.hid h1'
  clear hlen h1'
  by_cases h3 : a8 = xa
  case neg =>
    have HD : Hid (dirE (bytesN s) = 33) := Lib.hid (dirE_3 H1.out H2.out (by rw [← HA8.out, ← HA4.out, ← HXA.out]; exact h3))
    have hq := neq_nat h3
    have hq2 : ((a8 : Int) != bits BinOp.xor IntKind.u32 (if IntKind.u32.signed = true then -1 else IntKind.u32.max) (a4 : Int)) = true := by rw [← hx] at hq; exact hq
    go_enter Try.func22, Try.ntmps22
    go_wp2_with fail
    refine (C4.out _).mono ?_
    rintro e w1 ⟨rfl, n1, rfl⟩
    go_wp2_with fail
    refine (C8.out _).mono ?_
    rintro e w1 ⟨rfl, n2, rfl⟩
    go_wp2_with fail
    go_ret2
    exact ⟨_, _, rfl, dirPost_bad HD.out (by decide), below_drewN (Below.refl _ _) _⟩
  subst h3
  have H3 : Hid (get4 (bytesN s) 8 = ones ^^^ get4 (bytesN s) 4) := Lib.hid (by rw [← HA8.out, ← HA4.out]; exact HXA.out)
  have hqq := eq_nat a8
  have hq2 : ((a8 : Int) != bits BinOp.xor IntKind.u32 (if IntKind.u32.signed = true then -1 else IntKind.u32.max) (a4 : Int)) = false := by
    have h := hqq
    conv at h => lhs; arg 2; rw [← hx]
    exact h
  obtain ⟨en, hen⟩ : ∃ n, n = 12 + a4 := ⟨_, rfl⟩
  have HEN : Hid (endL (bytesN s) = en) := Lib.hid (by unfold endL; rw [hen, ← HA4.out])
  have hwa : IntKind.i64.wrap (a4 : Int) = (a4 : Int) := IntWalk.i64_in _ (by omega)
  have hwu : IntKind.u64.wrap (a4 : Int) = (a4 : Int) := IntWalk.u64_in _ (by omega)
  have hwe : (12 : Int) + (a4 : Int) = (en : Int) := by omega
  have hel : en ≤ 4294967400 := by omega
  have he12 : 12 ≤ en := by omega
  have he44 : en = 12 + a4 := hen
  have HEN4 := Lib.hid he44
  clear hen HXA
  by_cases h16 : s.size < 16
  · have HD : Hid (dirE (bytesN s) = 34) := Lib.hid (dirE_4 H1.out H2.out H3.out (by rw [HEN.out, HL.out]; omega))
    have h4' : decide ((s.size : Int) < 16) = true := by simp; omega
    clear he44
    go_enter Try.func22, Try.ntmps22
    go_wp2_with fail
    refine (C4.out _).mono ?_
    rintro e w1 ⟨rfl, n1, rfl⟩
    go_wp2_with fail
    refine (C8.out _).mono ?_
    rintro e w1 ⟨rfl, n2, rfl⟩
    go_wp2_with fail
    go_ret2
    exact ⟨_, _, rfl, dirPost_bad HD.out (by decide), below_drewN (Below.refl _ _) _⟩
  have h16' : decide ((s.size : Int) < 16) = false := by simp; omega
  obtain ⟨dz, hdz⟩ : ∃ d, d = s.size - 16 := ⟨_, rfl⟩
  have hwz : IntKind.i64.wrap ((s.size : Int) - 16) = (dz : Int) := by rw [IntWalk.i64_in _ (by omega)]; omega
  have hwz' : (s.size : Int) - 16 = (dz : Int) := by omega
  have hwd : IntKind.u64.wrap (dz : Int) = (dz : Int) := IntWalk.u64_in _ (by omega)
  by_cases h4 : s.size < en + 4
  · have HD : Hid (dirE (bytesN s) = 34) := Lib.hid (dirE_4 H1.out H2.out H3.out (by rw [HEN.out, HL.out]; exact h4))
    have h4' : decide ((dz : Int) < (a4 : Int)) = true := by simp; omega
    have h4n : decide (dz < a4) = true := by simp; omega
    clear he44 hdz
    go_enter Try.func22, Try.ntmps22
    go_wp2_with fail
    refine (C4.out _).mono ?_
    rintro e w1 ⟨rfl, n1, rfl⟩
    go_wp2_with fail
    refine (C8.out _).mono ?_
    rintro e w1 ⟨rfl, n2, rfl⟩
    go_wp2_with fail
    go_ret2
    exact ⟨_, _, rfl, dirPost_bad HD.out (by decide), below_drewN (Below.refl _ _) _⟩
  have H4 : Hid (¬ (bytesN s).length < endL (bytesN s) + 4) := Lib.hid (by rw [HEN.out, HL.out]; exact h4)
  have h4' : decide ((dz : Int) < (a4 : Int)) = false := by simp; omega
  have h4n : decide (dz < a4) = false := by simp; omega
  have k5 : (en : Int) ≤ (s.size : Int) := by omega
  have k6 : en ≤ s.size := by omega
  obtain ⟨ce, hce⟩ : ∃ n, n = get4 (bytesN s) en := ⟨_, rfl⟩
  obtain ⟨hd, hhd⟩ : ∃ d, d = s.extract 0 en := ⟨_, rfl⟩
  obtain ⟨de, hde⟩ : ∃ d, d = s.extract en s.size := ⟨_, rfl⟩
  obtain ⟨cs, hcs⟩ : ∃ n, n = crcL (bytesN hd) := ⟨_, rfl⟩
  have hhs : hd.size = en := by rw [hhd, ByteArray.size_extract]; omega
  have hes : de.size = s.size - en := by rw [hde, ByteArray.size_extract]; omega
  have CE : Hid (∀ W, Calls Try.prog 43 #[.string de] W fun e w' => e = .returned (.int .u32 ce) ∧ ∃ k, w' = W.drewN k) := Lib.hid (fun W => by rw [hce, ← get4_sub, ← hde]; exact get_any de W (by omega) (by omega))
  have CS : Hid (∀ W, Calls Try.prog 20 #[.string hd] W fun e w' => e = .returned (.int .u32 cs) ∧ W = w') := Lib.hid (fun W => by rw [hcs]; exact sum_any hd W (by omega))
  have HB : Hid ((bytesN s).take (endL (bytesN s)) = bytesN hd) := Lib.hid (by rw [HEN.out, hhd, bytesN_extract]; simp)
  have HCE : Hid (get4 (bytesN s) (endL (bytesN s)) = ce) := Lib.hid (by rw [HEN.out, hce])
  have HCS : Hid (crcL ((bytesN s).take (endL (bytesN s))) = cs) := Lib.hid (by rw [HB.out, hcs])
  have hhd' := hhd.symm
  have hde' := hde.symm
  clear hce hcs hhd hde hes hdz he44
  by_cases h5 : ce = cs
  case neg =>
    have HD : Hid (dirE (bytesN s) = 33) := Lib.hid (dirE_5 H1.out H2.out H3.out H4.out (by rw [HCE.out, HCS.out]; exact h5))
    have hq := neq_nat h5
    go_enter Try.func22, Try.ntmps22
    go_wp2_with fail
    refine (C4.out _).mono ?_
    rintro e w1 ⟨rfl, n1, rfl⟩
    go_wp2_with fail
    refine (C8.out _).mono ?_
    rintro e w1 ⟨rfl, n2, rfl⟩
    go_wp2_with fail
    go_region_held3 (fun _ => True) (trivial)
      (first
        | (go_at_call 43; (with_reducible refine (CE.out _).mono ?_); rintro e w' ⟨rfl, a1, rfl⟩)
        | (go_at_call 20; (with_reducible refine (CS.out _).mono ?_); rintro e w' ⟨rfl, rfl⟩))
    go_wp2_with fail
    go_ret2
    exact ⟨_, _, rfl, dirPost_bad HD.out (by decide), below_drewN (Below.refl _ _) _⟩
  subst h5
  have H5 : Hid (get4 (bytesN s) (endL (bytesN s)) = crcL ((bytesN s).take (endL (bytesN s)))) := Lib.hid (by rw [HCE.out, HCS.out])
  have hqc := eq_nat ce
  obtain ⟨ds, hds⟩ : ∃ d, d = s.extract 12 en := ⟨_, rfl⟩
  have hdsz : ds.size ≤ s.size := by rw [hds, ByteArray.size_extract]; omega
  have HDS : Hid (((bytesN s).take (endL (bytesN s))).drop 12 = bytesN ds) := Lib.hid (by rw [HEN.out, hds, bytesN_extract])
  have hds' := hds.symm
  have k12 : (12 : Int) ≤ (en : Int) := by omega
  obtain ⟨e4, he4⟩ : ∃ e, e = en + 4 := ⟨_, rfl⟩
  have he4' : (en : Int) + 4 = (e4 : Int) := by omega
  have he4l : e4 ≤ 1099511627776 := by omega
  have CR : Hid (∀ W, Calls Try.prog 44 #[.string ds, .int .i64 e4] W fun e w' => ∃ v b, e = .returned (.tuple #[v, .bool b]) ∧ EntPost W.heap.size ((entL (bytesN ds)).map fun es => withOff e4 es) v b w' ∧ Below W.heap.size W w') := Lib.hid (fun W => entries_ref ds e4 W (by omega) he4l)
  have HE4 : Hid (endL (bytesN s) + 4 = e4) := Lib.hid (by rw [HEN.out, he4])
  clear hds HCE HCS HB HA4 HA8 he4
  cases hee : entL (bytesN ds) with
  | none =>
    have HEE := Lib.hid hee
    have HD : Hid (dirE (bytesN s) = 15) := Lib.hid (dirE_6 H1.out H2.out H3.out H4.out H5.out (by rw [HDS.out]; exact hee))
    clear hee
    go_enter Try.func22, Try.ntmps22
    go_wp2_with fail
    refine (C4.out _).mono ?_
    rintro e w1 ⟨rfl, n1, rfl⟩
    go_wp2_with fail
    refine (C8.out _).mono ?_
    rintro e w1 ⟨rfl, n2, rfl⟩
    go_wp2_with fail
    go_region_held3 (fun _ => True) (trivial)
      (first
        | (go_at_call 43; (with_reducible refine (CE.out _).mono ?_); rintro e w' ⟨rfl, a1, rfl⟩)
        | (go_at_call 20; (with_reducible refine (CS.out _).mono ?_); rintro e w' ⟨rfl, rfl⟩))
    go_wp2_with fail
    refine (CR.out _).mono ?_
    rw [HEE.out]
    rintro e w2 ⟨v, b, rfl, hpost, hb2⟩
    have hb0 := below_drewN (Below.refl w.heap.size w)
    have hb3 := (hb0 _).trans hb2
    obtain ⟨rfl, rfl⟩ := hpost
    clear hb0
    go_wp2_with fail
    go_ret2
    exact ⟨_, _, rfl, dirPost_bad HD.out (by decide), hb3⟩
  | some es =>
    have HEE := Lib.hid hee
    have HD := Lib.hid (dirE_7 H1.out H2.out H3.out H4.out H5.out (by rw [HDS.out]; exact hee))
    have HES := Lib.hid (entL_size _ es (bytesN_lt ds) hee)
    clear hee
    go_enter Try.func22, Try.ntmps22
    go_wp2_with fail
    refine (C4.out _).mono ?_
    rintro e w1 ⟨rfl, n1, rfl⟩
    go_wp2_with fail
    refine (C8.out _).mono ?_
    rintro e w1 ⟨rfl, n2, rfl⟩
    go_wp2_with fail
    go_region_held3 (fun _ => True) (trivial)
      (first
        | (go_at_call 43; (with_reducible refine (CE.out _).mono ?_); rintro e w' ⟨rfl, a1, rfl⟩)
        | (go_at_call 20; (with_reducible refine (CS.out _).mono ?_); rintro e w' ⟨rfl, rfl⟩))
    go_wp2_with fail
    refine (CR.out _).mono ?_
    rw [HEE.out]
    rintro e w2 ⟨v, b, rfl, hpost, hb2⟩
    have hb0 := below_drewN (Below.refl w.heap.size w)
    have hb3 := (hb0 _).trans hb2
    obtain ⟨rfl, hown⟩ := hpost
    replace hown : OwnE w2 w.heap.size v (withOff e4 es) := hown
    obtain ⟨A, c, rfl, hnc, hcm⟩ := Own.shape hown
    obtain ⟨n, hn⟩ : ∃ n, n = (withOff e4 es).length := ⟨_, rfl⟩
    rw [← hn] at hnc hown ⊢
    have HN : Hid (n = es.length) := Lib.hid (by rw [hn, withOff_length])
    clear hn hb0
    unfold maxLen at hcm
    by_cases h64 : 64 < n
    · have HD9 : Hid (dirE (bytesN s) = 9) := Lib.hid (by rw [HD.out.1, if_pos (by rw [← HN.out]; exact h64)])
      go_wp2_with fail
      go_ret2
      exact ⟨_, _, rfl, dirPost_bad HD9.out (by decide), hb3⟩
    have HD2 : Hid (dirE (bytesN s) = if entE none es ≠ 0 then entE none es else if (bytesN s).length < e4 + sizes es then 34 else if e4 + sizes es < (bytesN s).length then 15 else 0) := Lib.hid (by rw [HD.out.1, if_neg (by rw [← HN.out]; exact h64), HE4.out])
    have HD3 : Hid (dirEs (bytesN s) = es) := Lib.hid HD.out.2
    clear HD
    go_wp2_with fail
    go_loopw [8, 9] (fun av iv wr => ∃ (k t : Nat) (p q : List Ent), Hid (es = p ++ q ∧ p.length = k) ∧ k ≤ n ∧ iv = .int .i64 k ∧ av = .int .i64 t ∧ Hid (t = e4 + sizes p) ∧ t ≤ e4 + k * 1048576 ∧ Hid (entE none es = entE p.getLast? q) ∧ Hid (OwnE wr w.heap.size (.slice A n c) (withOff e4 es)) ∧ Below w.heap.size w wr) (fun _ iv _ => n - (intOf iv).toNat)
    case atStart => exact ⟨0, e4, [], es, Lib.hid ⟨rfl, rfl⟩, Nat.zero_le _, rfl, rfl, Lib.hid (by simp [sizes]), by omega, Lib.hid rfl, Lib.hid hown, hb3⟩
    case round =>
      clear hown hb3
      obtain ⟨k, t, p, q, HPQ, hk, rfl, rfl, HT, ht, HE, HOn, hb⟩ := hrel
      have hbz := hb.size
      by_cases hlt : k < n
      · obtain ⟨x, r, hq⟩ : ∃ x r, q = x :: r := by
          cases q with
          | nil =>
            have h1 := HPQ.out.1
            have h2 := HPQ.out.2
            have h3 := HN.out
            rw [List.append_nil] at h1
            rw [h1] at h3
            omega
          | cons x r => exact ⟨x, r, rfl⟩
        subst hq
        obtain ⟨g, hA, hg1, hg2, c0, c1, c2, c3, fz⟩ := HOn.out.get k (x, e4 + sizes p) (by rw [← HPQ.out.2, HPQ.out.1]; exact withOff_at _ _ _ _)
        subst hA
        have hxz := (HES.out.1 x (by rw [HPQ.out.1]; simp)).1
        have hxn := (HES.out.1 x (by rw [HPQ.out.1]; simp)).2.2
        clear c3 fz c1
        obtain ⟨nm, sz, sm⟩ := x
        simp only at c0 c2 hxz hxn
        by_cases h7 : nameL (bytesN nm) = true
        case neg =>
          have h7' : nameL (bytesN nm) = false := by simpa using h7
          have H7 := Lib.hid h7'
          have HR : Hid (dirE (bytesN s) = 13) := Lib.hid (by rw [HD2.out, HE.out, entE_bad (badE_name h7') (by decide)]; rfl)
          clear h7 h7'
          go_wp2_with fail
          refine (isName_ref nm _ (by omega)).mono ?_
          rw [H7.out]
          rintro e w3 ⟨rfl, rfl⟩
          go_wp2_with fail
          go_ret2
          exact ⟨_, _, rfl, dirPost_bad HR.out (by decide), hb⟩
        have H7 := Lib.hid h7
        clear h7
        rcases List.eq_nil_or_concat p with rfl | ⟨p', y, hpy⟩
        · have hk0 : k = 0 := HPQ.out.2.symm
          have g1 : decide (0 < k) = false := by simp; omega
          have g2 : decide ((0 : Int) < (k : Int)) = false := by simp; omega
          have HK0 := Lib.hid hk0
          clear hk0
          by_cases hsz : 1048576 < sz
          · have d2 : decide ((1048576 : Int) < (sz : Int)) = true := by simp; omega
            have HR : Hid (dirE (bytesN s) = 10) := Lib.hid (by rw [HD2.out, HE.out]; rw [entE_bad (z := 10) (by rw [show ([] : List Ent).getLast? = none from rfl, badE_first H7.out, if_pos hsz]) (by decide)]; rfl)
            go_wp2_with fail
            refine (isName_ref nm _ (by omega)).mono ?_
            rw [H7.out]
            rintro e w3 ⟨rfl, rfl⟩
            go_wp2_with fail
            go_quiet (fail)
            go_wp2_with fail
            go_quiet (fail)
            go_wp2_with fail
            go_ret2
            exact ⟨_, _, rfl, dirPost_bad HR.out (by decide), below_drewN hb _⟩
          · have d2 : decide ((1048576 : Int) < (sz : Int)) = false := by simp; omega
            have HB0 : Hid (entE none es = entE (some (⟨nm, sz, sm⟩ : Ent)) r) := Lib.hid (by rw [HE.out]; exact entE_good (by rw [show ([] : List Ent).getLast? = none from rfl, badE_first H7.out, if_neg hsz]))
            have et : IntKind.i64.wrap ((t : Int) + (sz : Int)) = (t : Int) + (sz : Int) := IntWalk.i64_in _ (by omega)
            go_wp2_with fail
            refine (isName_ref nm _ (by omega)).mono ?_
            rw [H7.out]
            rintro e w3 ⟨rfl, rfl⟩
            go_wp2_with fail
            go_quiet (fail)
            go_wp2_with fail
            go_quiet (fail)
            go_wp2_with fail
            have hsl := Nat.mul_le_mul_right 1048576 hlt
            exact ⟨⟨k + 1, t + sz, [] ++ [⟨nm, sz, sm⟩], r, Lib.hid ⟨by rw [HPQ.out.1]; simp, by rw [List.length_append, HPQ.out.2]; rfl⟩, by omega, by go_num, by go_num, Lib.hid (sizes_step HT.out rfl), by omega, Lib.hid (by rw [List.getLast?_concat]; exact HB0.out), Lib.hid (Own.drewN HOn.out _), below_drewN hb _⟩, by simp [intOf]; omega⟩
        · rw [List.concat_eq_append] at hpy
          subst hpy
          obtain ⟨g', hA', _, _, e0, _⟩ := HOn.out.get p'.length (y, e4 + sizes p') (by rw [HPQ.out.1, List.append_assoc]; exact withOff_at _ _ _ _)
          obtain rfl : g = g' := by simpa using hA'
          have hkm := HPQ.out.2
          rw [List.length_append, List.length_singleton] at hkm
          obtain ⟨m, hm⟩ : ∃ m, m = p'.length := ⟨_, rfl⟩
          rw [← hm] at e0 hkm
          have g1 : decide (0 < k) = true := by simp; omega
          have g2 : decide ((0 : Int) < (k : Int)) = true := by simp; omega
          have g3 : IntKind.i64.wrap ((k : Int) - 1) = (m : Int) := by rw [IntWalk.i64_in _ (by omega)]; omega
          have g4 : (k : Int) - 1 = (m : Int) := by omega
          have g5 : (0 : Int) ≤ (m : Int) := by omega
          have g6 : (m : Int) < (n : Int) := by omega
          obtain ⟨ym, hym⟩ : ∃ ym, ym = y.name := ⟨_, rfl⟩
          have HYM := Lib.hid hym
          simp only at e0
          rw [← hym] at e0
          have HK0 := Lib.hid hkm
          have HG3 := Lib.hid (And.intro g3 g4)
          clear hm hym hA' hkm g3
          by_cases eq1 : nm.toList = ym.toList
          · have b1 : (nm.toList == ym.toList) = true := by simpa using eq1
            have HR : Hid (dirE (bytesN s) = 7) := Lib.hid (by rw [HD2.out, HE.out]; rw [entE_bad (z := 7) (by rw [List.getLast?_concat, badE_next H7.out, ← HYM.out, if_pos eq1]) (by decide)]; rfl)
            clear eq1
            have g3 := HG3.out.1
            go_wp2_with fail
            refine (isName_ref nm _ (by omega)).mono ?_
            rw [H7.out]
            rintro e w3 ⟨rfl, rfl⟩
            go_wp2_with fail
            go_quiet (fail)
            go_wp2_with fail
            go_ret2
            exact ⟨_, _, rfl, dirPost_bad HR.out (by decide), below_drewN hb _⟩
          have b1 : (nm.toList == ym.toList) = false := by simpa using eq1
          by_cases lt1 : nm.toList < ym.toList
          · have b2 : Op.bytesLess nm.toList ym.toList = true := by rw [bytesLess_eq]; simpa using lt1
            have HR : Hid (dirE (bytesN s) = 6) := Lib.hid (by rw [HD2.out, HE.out]; rw [entE_bad (z := 6) (by rw [List.getLast?_concat, badE_next H7.out, ← HYM.out, if_neg eq1, if_pos lt1]) (by decide)]; rfl)
            clear eq1 lt1
            have g3 := HG3.out.1
            go_wp2_with fail
            refine (isName_ref nm _ (by omega)).mono ?_
            rw [H7.out]
            rintro e w3 ⟨rfl, rfl⟩
            go_wp2_with fail
            go_quiet (fail)
            go_wp2_with fail
            go_quiet (fail)
            go_wp2_with fail
            go_ret2
            exact ⟨_, _, rfl, dirPost_bad HR.out (by decide), below_drewN (below_drewN hb _) _⟩
          have b2 : Op.bytesLess nm.toList ym.toList = false := by rw [bytesLess_eq]; simpa using lt1
          by_cases hsz : 1048576 < sz
          · have d2 : decide ((1048576 : Int) < (sz : Int)) = true := by simp; omega
            have HR : Hid (dirE (bytesN s) = 10) := Lib.hid (by rw [HD2.out, HE.out]; rw [entE_bad (z := 10) (by rw [List.getLast?_concat, badE_next H7.out, ← HYM.out, if_neg eq1, if_neg lt1, if_pos hsz]) (by decide)]; rfl)
            clear eq1 lt1
            have g3 := HG3.out.1
            go_wp2_with fail
            refine (isName_ref nm _ (by omega)).mono ?_
            rw [H7.out]
            rintro e w3 ⟨rfl, rfl⟩
            go_wp2_with fail
            go_quiet (fail)
            go_wp2_with fail
            go_quiet (fail)
            go_wp2_with fail
            go_ret2
            exact ⟨_, _, rfl, dirPost_bad HR.out (by decide), below_drewN hb _⟩
          · have d2 : decide ((1048576 : Int) < (sz : Int)) = false := by simp; omega
            have HB0 : Hid (entE none es = entE (some (⟨nm, sz, sm⟩ : Ent)) r) := Lib.hid (by rw [HE.out]; exact entE_good (by rw [List.getLast?_concat, badE_next H7.out, ← HYM.out, if_neg eq1, if_neg lt1, if_neg hsz]))
            have et : IntKind.i64.wrap ((t : Int) + (sz : Int)) = (t : Int) + (sz : Int) := IntWalk.i64_in _ (by omega)
            clear eq1 lt1
            have g3 := HG3.out.1
            go_wp2_with fail
            refine (isName_ref nm _ (by omega)).mono ?_
            rw [H7.out]
            rintro e w3 ⟨rfl, rfl⟩
            go_wp2_with fail
            go_quiet (fail)
            go_wp2_with fail
            go_quiet (fail)
            go_wp2_with fail
            clear g3
            have hsl := Nat.mul_le_mul_right 1048576 hlt
            exact ⟨⟨k + 1, t + sz, (p' ++ [y]) ++ [⟨nm, sz, sm⟩], r, Lib.hid ⟨by rw [HPQ.out.1]; simp, by rw [List.length_append, HPQ.out.2]; rfl⟩, by omega, by go_num, by go_num, Lib.hid (sizes_step HT.out rfl), by omega, Lib.hid (by rw [List.getLast?_concat]; exact HB0.out), Lib.hid (Own.drewN HOn.out _), below_drewN hb _⟩, by simp [intOf]; omega⟩
      · have hq : q = [] := by
          have h1 := HPQ.out.1
          have h2 := HPQ.out.2
          have h3 := HN.out
          rw [h1, List.length_append] at h3
          exact List.eq_nil_of_length_eq_zero (by omega)
        subst hq
        have hpe : p = es := by have h1 := HPQ.out.1; rw [List.append_nil] at h1; exact h1.symm
        have HRest : Hid (dirE (bytesN s) = if s.size < t then 34 else if t < s.size then 15 else 0) := Lib.hid (by
          rw [HD2.out, if_neg (by rw [HE.out]; simp [entE]), HL.out, HT.out, hpe])
        by_cases l1 : s.size < t
        · have HR : Hid (dirE (bytesN s) = 34) := Lib.hid (by rw [HRest.out, if_pos l1])
          clear hpe
          go_wp2_with fail
          go_ret2
          exact ⟨_, _, rfl, dirPost_bad HR.out (by decide), hb⟩
        by_cases l2 : t < s.size
        · have HR : Hid (dirE (bytesN s) = 15) := Lib.hid (by rw [HRest.out, if_neg l1, if_pos l2])
          clear hpe
          go_wp2_with fail
          go_ret2
          exact ⟨_, _, rfl, dirPost_bad HR.out (by decide), hb⟩
        have HR : Hid (dirE (bytesN s) = 0) := Lib.hid (by rw [HRest.out, if_neg l1, if_neg l2])
        have HX : Hid (dirX (bytesN s) = withOff e4 es) := Lib.hid (by unfold dirX; rw [if_pos HR.out, HD3.out, HE4.out])
        clear hpe
        go_wp2_with fail
        go_ret2
        exact ⟨_, _, rfl, ⟨HR.out.symm, fun h => absurd HR.out h, by rw [HX.out]; exact HOn.out.sl encE_length⟩, hb⟩
end Go.Proofs.Ytdnaifkcogadkaa
