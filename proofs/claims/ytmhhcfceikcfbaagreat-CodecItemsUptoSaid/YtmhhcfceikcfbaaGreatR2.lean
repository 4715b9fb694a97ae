/- Walks: what the readers read by numbers: sizes, texts, Booleans; a reader's end. -/
import Derived.Test.YtmhhcfceikcfbaaGreatR1b
namespace Go.Proofs.YtmhhcfceikcfbaaGreat
open Go.RowKit

theorem Res.szErr {s : ByteArray} {k k' : Nat} {e e' x : Int} (h : Res rdN s k e x k' e') (he : e' ≠ 0) : Res rdS s k e 0 k' e' := by
  refine ⟨h.1, h.2.1, fun h0 => ?_⟩
  have h2 := h.2.2 h0
  unfold rdS
  cases hq : rdN ((bytesN s).drop k) with
  | ok y n => rw [hq] at h2; exact absurd h2.2.2 he
  | err E => rw [hq] at h2; exact h2
theorem Res.ok0 {α : Type} {p : Rd α} {s : ByteArray} {k k' : Nat} {e : Int} {x : α} (h : Res p s k e x k' 0) : e = 0 ∧ ∃ n, p ((bytesN s).drop k) = .ok x n ∧ k' = k + n := by
  have h0 : e = 0 := by
    rcases Int.decEq e 0 with q | q
    · exact (h.2.1 q).symm
    · exact q
  have h2 := h.2.2 h0
  cases hq : p ((bytesN s).drop k) with
  | ok y n => rw [hq] at h2; obtain ⟨rfl, h3, _⟩ := h2; exact ⟨h0, n, rfl, h3⟩
  | err E => rw [hq] at h2; exact absurd h2.1.symm h2.2
theorem Res.bad {α : Type} {p : Rd α} {s : ByteArray} {k k' : Nat} {x : α} {E : Int} (hk : k' ≤ s.size) (hE : E ≠ 0) (h : p ((bytesN s).drop k) = .err E) : Res p s k 0 x k' E :=
  ⟨hk, fun q => absurd rfl q, fun _ => by rw [h]; exact ⟨rfl, hE⟩⟩
theorem Res.good {α : Type} {p : Rd α} {s : ByteArray} {k k' n : Nat} {x : α} (hk : k' ≤ s.size) (h : p ((bytesN s).drop k) = .ok x n) (hn : k' = k + n) : Res p s k 0 x k' 0 :=
  ⟨hk, fun q => absurd rfl q, fun _ => by rw [h]; exact ⟨rfl, hn, rfl⟩⟩
theorem Res.szNeg {s : ByteArray} {k k' : Nat} {e x : Int} (h : Res rdN s k e x k' 0) (hx : x < 0) : Res rdS s k e 0 k' 15 := by
  obtain ⟨rfl, n, hp, _⟩ := h.ok0
  exact Res.bad h.1 (by decide) (by unfold rdS; rw [hp]; exact if_pos hx)
theorem Res.szBig {s : ByteArray} {k k' n : Nat} {e : Int} (h : Res rdN s k e (n : Int) k' 0) (hx : s.size - k' < n) : Res rdS s k e 0 k' 34 := by
  obtain ⟨rfl, m, hp, hm⟩ := h.ok0
  refine Res.bad h.1 (by decide) ?_
  unfold rdS
  rw [hp]
  show (if (n : Int) < 0 then _ else if ((((bytesN s).drop k).length - m : Nat) : Int) < n then _ else _) = _
  rw [if_neg (by omega), List.length_drop, bytesN_length, if_pos (by omega)]
theorem Res.szOk {s : ByteArray} {k k' n : Nat} {e : Int} (h : Res rdN s k e (n : Int) k' 0) (hx : ¬ s.size - k' < n) : Res rdS s k e n k' 0 := by
  obtain ⟨rfl, m, hp, hm⟩ := h.ok0
  refine Res.good h.1 (n := m) ?_ hm
  unfold rdS
  rw [hp]
  show (if (n : Int) < 0 then _ else if ((((bytesN s).drop k).length - m : Nat) : Int) < n then _ else _) = _
  rw [if_neg (by omega), List.length_drop, bytesN_length, if_neg (by omega)]
  rfl
theorem bytesN_extract (t : ByteArray) (i j : Nat) : bytesN (t.extract i j) = ((bytesN t).take j).drop i := by
  unfold bytesN
  rw [ByteArray.data_extract, Array.toList_extract, List.extract_eq_take_drop, ← List.drop_take, List.map_drop, List.map_take]
theorem Res.text {s : ByteArray} {k k' n m : Nat} {e e' : Int} (h : Res rdS s k e n k' e') (h0 : e' ≠ 0 → n = 0) (hm : m = k' + n) (hs : m ≤ s.size) : Res strR s k e (s.extract k' m) m e' := by
  rcases Int.decEq e' 0 with q | q
  · refine ⟨hs, h.2.1, fun he => ?_⟩
    have h2 := h.2.2 he
    unfold strR textR bnd
    cases hq : rdS ((bytesN s).drop k) with
    | ok y n => rw [hq] at h2; exact absurd h2.2.2 q
    | err E => rw [hq] at h2; exact h2
  · subst q
    obtain ⟨rfl, c, hp, hc⟩ := h.ok0
    refine Res.good hs (n := c + n) ?_ (by omega)
    unfold strR textR bnd
    rw [hp]
    show Rs.ok (mkB ((((bytesN s).drop k).drop c).take n)) (c + n) = _
    rw [List.drop_drop, ← hc, show (((bytesN s).drop k').take n) = bytesN (s.extract k' m) by rw [bytesN_extract, List.drop_take, hm, Nat.add_sub_cancel_left], mkB_bytesN]
theorem Res.flagBad {s : ByteArray} {k k' : Nat} {e x : Int} {b : Bool} (h : Res rdN s k e x k' 0) (h0 : x ≠ 0) (h1 : x ≠ 1) : Res flagR s k e b k' 15 := by
  obtain ⟨rfl, n, hp, _⟩ := h.ok0
  refine Res.bad h.1 (by decide) ?_
  unfold flagR
  rw [hp]
  show (if x = 0 then _ else if x = 1 then _ else _) = _
  rw [if_neg h0, if_neg h1]
theorem Res.flagErr {s : ByteArray} {k k' : Nat} {e e' x : Int} {b : Bool} (h : Res rdN s k e x k' e') (he : e' ≠ 0) : Res flagR s k e b k' e' := by
  refine ⟨h.1, h.2.1, fun h0 => ?_⟩
  have h2 := h.2.2 h0
  unfold flagR
  cases hq : rdN ((bytesN s).drop k) with
  | ok y n => rw [hq] at h2; exact absurd h2.2.2 he
  | err E => rw [hq] at h2; exact h2
theorem Res.flag0 {s : ByteArray} {k k' : Nat} {e : Int} (h : Res rdN s k e 0 k' 0) : Res flagR s k e false k' 0 := by
  obtain ⟨rfl, n, hp, hn⟩ := h.ok0
  exact Res.good h.1 (n := n) (by unfold flagR; rw [hp]; rfl) hn
theorem Res.flag1 {s : ByteArray} {k k' : Nat} {e : Int} (h : Res rdN s k e 1 k' 0) : Res flagR s k e true k' 0 := by
  obtain ⟨rfl, n, hp, hn⟩ := h.ok0
  exact Res.good h.1 (n := n) (by unfold flagR; rw [hp]; rfl) hn
/-- What a reader's fault is after one more. -/
def errC (e E : Int) : Int := if e = 0 then E else e
set_option maxRecDepth 100000 in
set_option maxHeartbeats 4000000 in
theorem fail97_any (r k : Nat) (s : ByteArray) (e0 E : Int) (w : World) (h : Rdr 99 r s k e0 w) :
    Calls Tryz.prog 97 #[.pointer (some ⟨r, 0, none⟩), .int .i64 E] w fun e w' => e = .returned (.tuple #[]) ∧ Rdr 99 r s k (errC e0 E) w' ∧ w.grownBy w' (some r) := by
  rcases Int.decEq e0 0 with q | q
  · refine (fail97_no r k s e0 E w h q).mono ?_
    rintro e w' ⟨rfl, rfl⟩
    exact ⟨rfl, by unfold errC; rw [if_neg q]; exact h, grown_refl _ _⟩
  · subst q
    exact fail97 r k s E w h
set_option maxRecDepth 100000 in
set_option maxHeartbeats 4000000 in
theorem number43_any (r k0 : Nat) (s : ByteArray) (e0 : Int) (w : World) (h : Rdr 99 r s k0 e0 w) (hk : k0 ≤ s.size) (hs : s.size ≤ 1099511627776) :
    Calls Tryz.prog 43 #[.pointer (some ⟨r, 0, none⟩)] w fun e w' => ∃ x k' e', e = .returned (.int .i64 x) ∧ I64 x ∧ Rdr 99 r s k' e' w' ∧ w.grownBy w' (some r) ∧ Res rdN s k0 e0 x k' e' := by
  rcases Int.decEq e0 0 with he | he
  · obtain ⟨c0, c1, c2, f1, f2⟩ := h.cells
    have d0 : (e0 == 0) = false := by simpa using he
    have HH := Lib.hid h
    have HE := Lib.hid he
    clear h he
    go_enter Tryz.func43, Tryz.ntmps43
    go_wp2_with fail
    go_loopw [3, 4] (fun uv iv wr => uv = .int .u64 0 ∧ iv = .int .i64 0 ∧ wr = w) (fun _ _ _ => 0)
    case atStart => exact ⟨rfl, rfl, rfl⟩
    case round =>
      obtain ⟨rfl, rfl, hw⟩ := hrel
      subst hw
      go_wp2_with fail
      go_ret
      exact ⟨0, k0, e0, rfl, by unfold I64; omega, HH.out, grown_refl _ _, hk, fun _ => rfl, fun h => absurd h HE.out⟩
  · subst he
    exact number43 r k0 s w h hk hs
set_option maxRecDepth 100000 in
set_option maxHeartbeats 4000000 in
theorem size195 (r k0 : Nat) (s : ByteArray) (e0 : Int) (w : World) (h : Rdr 99 r s k0 e0 w) (hk : k0 ≤ s.size) (hs : s.size ≤ 1099511627776) :
    Calls Tryz.prog 195 #[.pointer (some ⟨r, 0, none⟩)] w fun e w' => ∃ (n : Nat) (k' : Nat) (e' : Int), e = .returned (.int .i64 (n : Int)) ∧ k' + n ≤ s.size ∧ (e' ≠ 0 → n = 0) ∧ Rdr 99 r s k' e' w' ∧ w.grownBy w' (some r) ∧ Res rdS s k0 e0 n k' e' := by
  have C := Lib.hid (number43_any r k0 s e0 w h hk hs)
  clear h
  go_enter Tryz.func195, Tryz.ntmps195
  go_wp2_with fail
  refine C.out.mono ?_
  rintro e w1 ⟨x, k1, e1, rfl, hx, hr, hg, hres⟩
  have hk1 := hres.1
  obtain ⟨c0, c1, c2, f1, f2⟩ := hr.cells
  have HR := Lib.hid hr
  have HG := Lib.hid hg
  have HS := Lib.hid hres
  clear C hr hg hres
  rcases Int.decEq e1 0 with he | he
  · have d0 : (e1 != 0) = true := by simpa using he
    have HE := Lib.hid he
    clear he
    go_wp2_with fail
    go_ret
    exact ⟨0, k1, e1, rfl, hk1, fun _ => rfl, HR.out, HG.out, HS.out.szErr HE.out⟩
  · subst he
    by_cases hneg : x < 0
    · have d1 : decide (x < 0) = true := by simp; omega
      have HN := Lib.hid hneg
      clear hneg
      go_wp2_with fail
      refine (fail97 r k1 s 15 w1 HR.out).mono ?_
      rintro e w2 ⟨rfl, hr2, hg2⟩
      have HR2 := Lib.hid hr2
      clear hr2
      go_wp2_with fail
      go_ret
      exact ⟨0, k1, 15, rfl, hk1, fun _ => rfl, HR2.out, grown_trans HG.out hg2, HS.out.szNeg HN.out⟩
    · obtain ⟨n, rfl⟩ : ∃ n : Nat, x = (n : Int) := ⟨x.toNat, by omega⟩
      have d1 : decide ((n : Int) < 0) = false := by simp
      have d2 : ¬ (n : Int) < 0 := by omega
      obtain ⟨m, hm⟩ : ∃ m, m = s.size - k1 := ⟨_, rfl⟩
      have q1 : IntKind.i64.wrap ((s.size : Int) - (k1 : Int)) = (m : Int) := by rw [IntWalk.i64_in _ (by omega)]; omega
      have q2 : RowKit.wrap64 ((s.size : Int) - (k1 : Int)) = (m : Int) := by rw [← IntWalk.i64_left]; exact q1
      by_cases hbig : m < n
      · have d3 : decide ((m : Int) < (n : Int)) = true := by simp; omega
        have HB : Hid (s.size - k1 < n) := Lib.hid (by omega)
        clear hm
        go_wp2_with fail
        go_quiet (fail)
        have HF := Lib.hid (fun j : Nat => fail97 r k1 s 34 (w1.drewN j) (HR.out.drewN j))
        go_wp2_with fail
        refine (HF.out _).mono ?_
        rintro e w2 ⟨rfl, hr2, hg2⟩
        have HR2 := Lib.hid hr2
        clear hr2 HF
        go_wp2_with fail
        go_ret
        exact ⟨0, k1, 34, rfl, hk1, fun _ => rfl, HR2.out, grown_trans (grown_drewN HG.out _) hg2, HS.out.szBig HB.out⟩
      · have d3 : decide ((m : Int) < (n : Int)) = false := by simp; omega
        have HB : Hid (¬ s.size - k1 < n) := Lib.hid (by omega)
        have HK : Hid (k1 + n ≤ s.size) := Lib.hid (by omega)
        clear hm
        go_wp2_with fail
        go_quiet (fail)
        go_wp2_with fail
        go_ret
        exact ⟨n, k1, 0, rfl, HK.out, fun h => absurd rfl h, HR.out.drewN _, grown_drewN HG.out _, HS.out.szOk HB.out⟩
set_option maxRecDepth 100000 in
set_option maxHeartbeats 4000000 in
theorem text142 (r k0 : Nat) (s : ByteArray) (e0 : Int) (w : World) (h : Rdr 99 r s k0 e0 w) (hk : k0 ≤ s.size) (hs : s.size ≤ 1099511627776) :
    Calls Tryz.prog 142 #[.pointer (some ⟨r, 0, none⟩)] w fun e w' => ∃ (t : ByteArray) (k' : Nat) (e' : Int), e = .returned (.string t) ∧ t.size ≤ s.size ∧ Rdr 99 r s k' e' w' ∧ w.grownBy w' (some r) ∧ Res strR s k0 e0 t k' e' := by
  have C := Lib.hid (size195 r k0 s e0 w h hk hs)
  clear h
  go_enter Tryz.func142, Tryz.ntmps142
  go_wp2_with fail
  refine C.out.mono ?_
  rintro e w1 ⟨n, k1, e1, rfl, hk1, hn0, hr, hg, hres⟩
  obtain ⟨m, hm⟩ : ∃ m, m = k1 + n := ⟨_, rfl⟩
  have HT : Hid (Res strR s k0 e0 (s.extract k1 m) m e1) := Lib.hid (hres.text hn0 hm (by omega))
  have HZ : Hid ((s.extract k1 m).size ≤ s.size) := Lib.hid (by rw [ByteArray.size_extract]; omega)
  have b1 : (k1 : Int) ≤ (m : Int) := by omega
  have b2 : (m : Int) ≤ (s.size : Int) := by omega
  have b3 : k1 ≤ m := by omega
  have b4 : m ≤ s.size := by omega
  have q1 : IntKind.i64.wrap ((k1 : Int) + (n : Int)) = (m : Int) := by rw [IntWalk.i64_in _ (by omega)]; omega
  have q3 : IntKind.i64.wrap ((m : Int) - (n : Int)) = (k1 : Int) := by rw [IntWalk.i64_in _ (by omega)]; omega
  have q2 : RowKit.wrap64 ((k1 : Int) + (n : Int)) = (m : Int) := by rw [← IntWalk.i64_left]; exact q1
  have q4 : RowKit.wrap64 ((m : Int) - (n : Int)) = (k1 : Int) := by rw [← IntWalk.i64_left]; exact q3
  obtain ⟨c0, c1, c2, f1, f2⟩ := hr.cells
  have HR := Lib.hid hr
  have HG := Lib.hid hg
  clear C hr hg hres hm hk1 hn0
  go_wp2_with fail
  go_quiet (fail)
  go_wp2_with fail
  go_ret
  exact ⟨_, m, e1, rfl, HZ.out, (HR.out.drewN _).setAt m, grown_trans (grown_drewN HG.out _) (grown_set _ _ _ _), HT.out⟩
set_option maxRecDepth 100000 in
set_option maxHeartbeats 4000000 in
theorem flag80 (r k0 : Nat) (s : ByteArray) (e0 : Int) (w : World) (h : Rdr 99 r s k0 e0 w) (hk : k0 ≤ s.size) (hs : s.size ≤ 1099511627776) :
    Calls Tryz.prog 80 #[.pointer (some ⟨r, 0, none⟩)] w fun e w' => ∃ (b : Bool) (k' : Nat) (e' : Int), e = .returned (.bool b) ∧ Rdr 99 r s k' e' w' ∧ w.grownBy w' (some r) ∧ Res flagR s k0 e0 b k' e' := by
  have C := Lib.hid (number43_any r k0 s e0 w h hk hs)
  clear h
  go_enter Tryz.func80, Tryz.ntmps80
  go_wp2_with fail
  refine C.out.mono ?_
  rintro e w1 ⟨x, k1, e1, rfl, hx, hr, hg, hres⟩
  have HR := Lib.hid hr
  have HG := Lib.hid hg
  have HS := Lib.hid hres
  clear C hr hg hres
  rcases Int.decEq x 0 with h0 | h0
  · rcases Int.decEq x 1 with h1 | h1
    · have d0 : (x != 0) = true := by simpa using h0
      have d1 : (x != 1) = true := by simpa using h1
      have d2 : (x == 1) = false := by simpa using h1
      have H0 := Lib.hid h0
      have H1 := Lib.hid h1
      clear h0 h1
      go_wp2_with fail
      refine (fail97_any r k1 s e1 15 w1 HR.out).mono ?_
      rintro e w2 ⟨rfl, hr2, hg2⟩
      have HR2 := Lib.hid hr2
      clear hr2
      go_wp2_with fail
      go_ret
      refine ⟨_, k1, errC e1 15, rfl, HR2.out, grown_trans HG.out hg2, ?_⟩
      rcases Int.decEq e1 0 with q | q
      · unfold errC
        rw [if_neg q]
        exact HS.out.flagErr q
      · subst q
        exact HS.out.flagBad H0.out H1.out
    · subst h1
      go_wp2_with fail
      go_ret
      refine ⟨true, k1, e1, rfl, HR.out, HG.out, ?_⟩
      rcases Int.decEq e1 0 with q | q
      · exact HS.out.flagErr q
      · subst q
        exact HS.out.flag1
  · subst h0
    go_wp2_with fail
    go_ret
    refine ⟨false, k1, e1, rfl, HR.out, HG.out, ?_⟩
    rcases Int.decEq e1 0 with q | q
    · exact HS.out.flagErr q
    · subst q
      exact HS.out.flag0
set_option maxRecDepth 100000 in
set_option maxHeartbeats 4000000 in
theorem end66 (r k0 : Nat) (s : ByteArray) (e0 : Int) (w : World) (h : Rdr 99 r s k0 e0 w) :
    Calls Tryz.prog 66 #[.pointer (some ⟨r, 0, none⟩)] w fun e w' => e = .returned (.int .i64 (if k0 < s.size then errC e0 15 else e0)) ∧ w.grownBy w' (some r) := by
  obtain ⟨c0, c1, c2, f1, f2⟩ := h.cells
  have HR := Lib.hid h
  clear h
  by_cases hk : k0 < s.size
  · have d0 : decide ((k0 : Int) < (s.size : Int)) = true := by simp; omega
    rw [if_pos hk]
    have b1 : (k0 : Int) < (s.size : Int) := by omega
    have HF := Lib.hid (fun j : Nat => fail97_any r k0 s e0 15 (w.drewN j) (HR.out.drewN j))
    go_enter Tryz.func66, Tryz.ntmps66
    go_wp2_with fail
    go_quiet (fail)
    go_wp2_with fail
    refine (HF.out _).mono ?_
    rintro e w2 ⟨rfl, hr2, hg2⟩
    obtain ⟨c0', c1', c2', f1', f2'⟩ := hr2.cells
    have HG2 := Lib.hid (grown_trans (grown_drewN (grown_refl w (some r)) _) hg2)
    clear hr2 hg2 HF c0 c1 c2
    go_wp2_with fail
    go_ret
    exact ⟨rfl, HG2.out⟩
  · have d0 : decide ((k0 : Int) < (s.size : Int)) = false := by simp; omega
    have b1 : ¬ (k0 : Int) < (s.size : Int) := by omega
    rw [if_neg hk]
    go_enter Tryz.func66, Tryz.ntmps66
    go_wp2_with fail
    go_quiet (fail)
    go_wp2_with fail
    go_ret
    exact ⟨rfl, grown_drewN (grown_refl w (some r)) _⟩
set_option maxRecDepth 100000 in
set_option maxHeartbeats 4000000 in
theorem fail44_any (r k : Nat) (s : ByteArray) (e0 E : Int) (w : World) (h : Rdr 30 r s k e0 w) :
    Calls Tryz.prog 44 #[.pointer (some ⟨r, 0, none⟩), .int .i64 E] w fun e w' => e = .returned (.tuple #[]) ∧ Rdr 30 r s k (errC e0 E) w' ∧ w.grownBy w' (some r) := by
  rcases Int.decEq e0 0 with q | q
  · refine (fail44_no r k s e0 E w h q).mono ?_
    rintro e w' ⟨rfl, rfl⟩
    exact ⟨rfl, by unfold errC; rw [if_neg q]; exact h, grown_refl _ _⟩
  · subst q
    exact fail44 r k s E w h
set_option maxRecDepth 100000 in
set_option maxHeartbeats 4000000 in
theorem number17_any (r k0 : Nat) (s : ByteArray) (e0 : Int) (w : World) (h : Rdr 30 r s k0 e0 w) (hk : k0 ≤ s.size) (hs : s.size ≤ 1099511627776) :
    Calls Tryz.prog 17 #[.pointer (some ⟨r, 0, none⟩)] w fun e w' => ∃ x k' e', e = .returned (.int .i64 x) ∧ I64 x ∧ Rdr 30 r s k' e' w' ∧ w.grownBy w' (some r) ∧ Res rdN s k0 e0 x k' e' := by
  rcases Int.decEq e0 0 with he | he
  · obtain ⟨c0, c1, c2, f1, f2⟩ := h.cells
    have d0 : (e0 == 0) = false := by simpa using he
    have HH := Lib.hid h
    have HE := Lib.hid he
    clear h he
    go_enter Tryz.func17, Tryz.ntmps17
    go_wp2_with fail
    go_loopw [3, 4] (fun uv iv wr => uv = .int .u64 0 ∧ iv = .int .i64 0 ∧ wr = w) (fun _ _ _ => 0)
    case atStart => exact ⟨rfl, rfl, rfl⟩
    case round =>
      obtain ⟨rfl, rfl, hw⟩ := hrel
      subst hw
      go_wp2_with fail
      go_ret
      exact ⟨0, k0, e0, rfl, by unfold I64; omega, HH.out, grown_refl _ _, hk, fun _ => rfl, fun h => absurd h HE.out⟩
  · subst he
    exact number17 r k0 s w h hk hs
set_option maxRecDepth 100000 in
set_option maxHeartbeats 4000000 in
theorem size73 (r k0 : Nat) (s : ByteArray) (e0 : Int) (w : World) (h : Rdr 30 r s k0 e0 w) (hk : k0 ≤ s.size) (hs : s.size ≤ 1099511627776) :
    Calls Tryz.prog 73 #[.pointer (some ⟨r, 0, none⟩)] w fun e w' => ∃ (n : Nat) (k' : Nat) (e' : Int), e = .returned (.int .i64 (n : Int)) ∧ k' + n ≤ s.size ∧ (e' ≠ 0 → n = 0) ∧ Rdr 30 r s k' e' w' ∧ w.grownBy w' (some r) ∧ Res rdS s k0 e0 n k' e' := by
  have C := Lib.hid (number17_any r k0 s e0 w h hk hs)
  clear h
  go_enter Tryz.func73, Tryz.ntmps73
  go_wp2_with fail
  refine C.out.mono ?_
  rintro e w1 ⟨x, k1, e1, rfl, hx, hr, hg, hres⟩
  have hk1 := hres.1
  obtain ⟨c0, c1, c2, f1, f2⟩ := hr.cells
  have HR := Lib.hid hr
  have HG := Lib.hid hg
  have HS := Lib.hid hres
  clear C hr hg hres
  rcases Int.decEq e1 0 with he | he
  · have d0 : (e1 != 0) = true := by simpa using he
    have HE := Lib.hid he
    clear he
    go_wp2_with fail
    go_ret
    exact ⟨0, k1, e1, rfl, hk1, fun _ => rfl, HR.out, HG.out, HS.out.szErr HE.out⟩
  · subst he
    by_cases hneg : x < 0
    · have d1 : decide (x < 0) = true := by simp; omega
      have HN := Lib.hid hneg
      clear hneg
      go_wp2_with fail
      refine (fail44 r k1 s 15 w1 HR.out).mono ?_
      rintro e w2 ⟨rfl, hr2, hg2⟩
      have HR2 := Lib.hid hr2
      clear hr2
      go_wp2_with fail
      go_ret
      exact ⟨0, k1, 15, rfl, hk1, fun _ => rfl, HR2.out, grown_trans HG.out hg2, HS.out.szNeg HN.out⟩
    · obtain ⟨n, rfl⟩ : ∃ n : Nat, x = (n : Int) := ⟨x.toNat, by omega⟩
      have d1 : decide ((n : Int) < 0) = false := by simp
      have d2 : ¬ (n : Int) < 0 := by omega
      obtain ⟨m, hm⟩ : ∃ m, m = s.size - k1 := ⟨_, rfl⟩
      have q1 : IntKind.i64.wrap ((s.size : Int) - (k1 : Int)) = (m : Int) := by rw [IntWalk.i64_in _ (by omega)]; omega
      have q2 : RowKit.wrap64 ((s.size : Int) - (k1 : Int)) = (m : Int) := by rw [← IntWalk.i64_left]; exact q1
      by_cases hbig : m < n
      · have d3 : decide ((m : Int) < (n : Int)) = true := by simp; omega
        have HB : Hid (s.size - k1 < n) := Lib.hid (by omega)
        clear hm
        go_wp2_with fail
        go_quiet (fail)
        have HF := Lib.hid (fun j : Nat => fail44 r k1 s 34 (w1.drewN j) (HR.out.drewN j))
        go_wp2_with fail
        refine (HF.out _).mono ?_
        rintro e w2 ⟨rfl, hr2, hg2⟩
        have HR2 := Lib.hid hr2
        clear hr2 HF
        go_wp2_with fail
        go_ret
        exact ⟨0, k1, 34, rfl, hk1, fun _ => rfl, HR2.out, grown_trans (grown_drewN HG.out _) hg2, HS.out.szBig HB.out⟩
      · have d3 : decide ((m : Int) < (n : Int)) = false := by simp; omega
        have HB : Hid (¬ s.size - k1 < n) := Lib.hid (by omega)
        have HK : Hid (k1 + n ≤ s.size) := Lib.hid (by omega)
        clear hm
        go_wp2_with fail
        go_quiet (fail)
        go_wp2_with fail
        go_ret
        exact ⟨n, k1, 0, rfl, HK.out, fun h => absurd rfl h, HR.out.drewN _, grown_drewN HG.out _, HS.out.szOk HB.out⟩
set_option maxRecDepth 100000 in
set_option maxHeartbeats 4000000 in
theorem text74 (r k0 : Nat) (s : ByteArray) (e0 : Int) (w : World) (h : Rdr 30 r s k0 e0 w) (hk : k0 ≤ s.size) (hs : s.size ≤ 1099511627776) :
    Calls Tryz.prog 74 #[.pointer (some ⟨r, 0, none⟩)] w fun e w' => ∃ (t : ByteArray) (k' : Nat) (e' : Int), e = .returned (.string t) ∧ t.size ≤ s.size ∧ Rdr 30 r s k' e' w' ∧ w.grownBy w' (some r) ∧ Res strR s k0 e0 t k' e' := by
  have C := Lib.hid (size73 r k0 s e0 w h hk hs)
  clear h
  go_enter Tryz.func74, Tryz.ntmps74
  go_wp2_with fail
  refine C.out.mono ?_
  rintro e w1 ⟨n, k1, e1, rfl, hk1, hn0, hr, hg, hres⟩
  obtain ⟨m, hm⟩ : ∃ m, m = k1 + n := ⟨_, rfl⟩
  have HT : Hid (Res strR s k0 e0 (s.extract k1 m) m e1) := Lib.hid (hres.text hn0 hm (by omega))
  have HZ : Hid ((s.extract k1 m).size ≤ s.size) := Lib.hid (by rw [ByteArray.size_extract]; omega)
  have b1 : (k1 : Int) ≤ (m : Int) := by omega
  have b2 : (m : Int) ≤ (s.size : Int) := by omega
  have b3 : k1 ≤ m := by omega
  have b4 : m ≤ s.size := by omega
  have q1 : IntKind.i64.wrap ((k1 : Int) + (n : Int)) = (m : Int) := by rw [IntWalk.i64_in _ (by omega)]; omega
  have q3 : IntKind.i64.wrap ((m : Int) - (n : Int)) = (k1 : Int) := by rw [IntWalk.i64_in _ (by omega)]; omega
  have q2 : RowKit.wrap64 ((k1 : Int) + (n : Int)) = (m : Int) := by rw [← IntWalk.i64_left]; exact q1
  have q4 : RowKit.wrap64 ((m : Int) - (n : Int)) = (k1 : Int) := by rw [← IntWalk.i64_left]; exact q3
  obtain ⟨c0, c1, c2, f1, f2⟩ := hr.cells
  have HR := Lib.hid hr
  have HG := Lib.hid hg
  clear C hr hg hres hm hk1 hn0
  go_wp2_with fail
  go_quiet (fail)
  go_wp2_with fail
  go_ret
  exact ⟨_, m, e1, rfl, HZ.out, (HR.out.setAt m).drewN _, grown_drewN (grown_trans HG.out (grown_set _ _ _ _)) _, HT.out⟩
set_option maxRecDepth 100000 in
set_option maxHeartbeats 4000000 in
theorem flag93 (r k0 : Nat) (s : ByteArray) (e0 : Int) (w : World) (h : Rdr 30 r s k0 e0 w) (hk : k0 ≤ s.size) (hs : s.size ≤ 1099511627776) :
    Calls Tryz.prog 93 #[.pointer (some ⟨r, 0, none⟩)] w fun e w' => ∃ (b : Bool) (k' : Nat) (e' : Int), e = .returned (.bool b) ∧ Rdr 30 r s k' e' w' ∧ w.grownBy w' (some r) ∧ Res flagR s k0 e0 b k' e' := by
  have C := Lib.hid (number17_any r k0 s e0 w h hk hs)
  clear h
  go_enter Tryz.func93, Tryz.ntmps93
  go_wp2_with fail
  refine C.out.mono ?_
  rintro e w1 ⟨x, k1, e1, rfl, hx, hr, hg, hres⟩
  have HR := Lib.hid hr
  have HG := Lib.hid hg
  have HS := Lib.hid hres
  clear C hr hg hres
  rcases Int.decEq x 0 with h0 | h0
  · rcases Int.decEq x 1 with h1 | h1
    · have d0 : (x != 0) = true := by simpa using h0
      have d1 : (x != 1) = true := by simpa using h1
      have d2 : (x == 1) = false := by simpa using h1
      have H0 := Lib.hid h0
      have H1 := Lib.hid h1
      clear h0 h1
      go_wp2_with fail
      refine (fail44_any r k1 s e1 15 w1 HR.out).mono ?_
      rintro e w2 ⟨rfl, hr2, hg2⟩
      have HR2 := Lib.hid hr2
      clear hr2
      go_wp2_with fail
      go_ret
      refine ⟨_, k1, errC e1 15, rfl, HR2.out, grown_trans HG.out hg2, ?_⟩
      rcases Int.decEq e1 0 with q | q
      · unfold errC
        rw [if_neg q]
        exact HS.out.flagErr q
      · subst q
        exact HS.out.flagBad H0.out H1.out
    · subst h1
      go_wp2_with fail
      go_ret
      refine ⟨true, k1, e1, rfl, HR.out, HG.out, ?_⟩
      rcases Int.decEq e1 0 with q | q
      · exact HS.out.flagErr q
      · subst q
        exact HS.out.flag1
  · subst h0
    go_wp2_with fail
    go_ret
    refine ⟨false, k1, e1, rfl, HR.out, HG.out, ?_⟩
    rcases Int.decEq e1 0 with q | q
    · exact HS.out.flagErr q
    · subst q
      exact HS.out.flag0
set_option maxRecDepth 100000 in
set_option maxHeartbeats 4000000 in
theorem end28 (r k0 : Nat) (s : ByteArray) (e0 : Int) (w : World) (h : Rdr 30 r s k0 e0 w) :
    Calls Tryz.prog 28 #[.pointer (some ⟨r, 0, none⟩)] w fun e w' => e = .returned (.int .i64 (if k0 < s.size then errC e0 15 else e0)) ∧ w.grownBy w' (some r) := by
  obtain ⟨c0, c1, c2, f1, f2⟩ := h.cells
  have HR := Lib.hid h
  clear h
  by_cases hk : k0 < s.size
  · have d0 : decide ((k0 : Int) < (s.size : Int)) = true := by simp; omega
    rw [if_pos hk]
    have b1 : (k0 : Int) < (s.size : Int) := by omega
    have HF := Lib.hid (fun j : Nat => fail44_any r k0 s e0 15 (w.drewN j) (HR.out.drewN j))
    go_enter Tryz.func28, Tryz.ntmps28
    go_wp2_with fail
    go_quiet (fail)
    go_wp2_with fail
    refine (HF.out _).mono ?_
    rintro e w2 ⟨rfl, hr2, hg2⟩
    obtain ⟨c0', c1', c2', f1', f2'⟩ := hr2.cells
    have HG2 := Lib.hid (grown_trans (grown_drewN (grown_refl w (some r)) _) hg2)
    clear hr2 hg2 HF c0 c1 c2
    go_wp2_with fail
    go_ret
    exact ⟨rfl, HG2.out⟩
  · have d0 : decide ((k0 : Int) < (s.size : Int)) = false := by simp; omega
    have b1 : ¬ (k0 : Int) < (s.size : Int) := by omega
    rw [if_neg hk]
    go_enter Tryz.func28, Tryz.ntmps28
    go_wp2_with fail
    go_quiet (fail)
    go_wp2_with fail
    go_ret
    exact ⟨rfl, grown_drewN (grown_refl w (some r)) _⟩
end Go.Proofs.YtmhhcfceikcfbaaGreat
