/- Walk: AlignmentRegions. -/
import Derived.Deep.CutRange
import Derived.Test.YtbpegoekjlehcaaL1
import Derived.Test.YtbpegoekjlehcaaW19
import Derived.Test.YtbpegoekjlehcaaW14
namespace Go.Proofs.Ytbpegoekjlehcaa
open Go.RowKit
attribute [local go_sem] run_eq62 run_gd62

/-- What a round reads of region k. -/
def RegAt (w : World) (B : Nat) (A : Option Addr) (l : List Reg) : Prop :=
  ∀ k (h : k < l.length), ∃ b o, A = some ⟨b, o, none⟩ ∧ b < B ∧ w.cell? ⟨b, o + k * 5, none⟩ = some (.int .i64 l[k].1) ∧ w.cell? ⟨b, o + k * 5 + 1, none⟩ = some (.int .i64 l[k].2.1) ∧
    w.cell? ⟨b, o + k * 5 + 2, none⟩ = some (.int .i64 l[k].2.2.1) ∧ w.cell? ⟨b, o + k * 5 + 3, none⟩ = some (.int .i64 l[k].2.2.2.1) ∧ w.cell? ⟨b, o + k * 5 + 4, none⟩ = some (.bool l[k].2.2.2.2)
theorem Sl.reg {w : World} {B : Nat} {v : Value} {l : List Reg} (h : Sl encR 5 w B v l) : ∃ A c, v = .slice A l.length c ∧ l.length ≤ c ∧ c ≤ 9223372036854775807 ∧ RegAt w B A l := by
  obtain ⟨A, c, rfl, h1, h2, h3⟩ := h
  refine ⟨A, c, rfl, h1, h2, fun k hk => ?_⟩
  obtain ⟨b, o, rfl, hb, hc⟩ := h3 (by omega)
  have hx : l[k]? = some l[k] := by simp
  exact ⟨b, o, rfl, hb, hc k l[k] hx 0 _ rfl, hc k l[k] hx 1 _ rfl, hc k l[k] hx 2 _ rfl, hc k l[k] hx 3 _ rfl, hc k l[k] hx 4 _ rfl⟩
theorem RegAt.below {w w' : World} {B : Nat} {A : Option Addr} {l : List Reg} (h : RegAt w B A l) (hb : Below B w w') : RegAt w' B A l := by
  intro k hk
  obtain ⟨b, o, rfl, hbB, h0, h1, h2, h3, h4⟩ := h k hk
  exact ⟨b, o, rfl, hbB, (hb.cell (p := ⟨b, _, none⟩) hbB).trans h0, (hb.cell (p := ⟨b, _, none⟩) hbB).trans h1, (hb.cell (p := ⟨b, _, none⟩) hbB).trans h2, (hb.cell (p := ⟨b, _, none⟩) hbB).trans h3, (hb.cell (p := ⟨b, _, none⟩) hbB).trans h4⟩
theorem RegOK.le {N M : Int} {p : List Tok} : ∀ {L : List Reg} {s : Option Bool} {i j : Int} {k : Nat}, RegOK N M p s L i j k → i ≤ N ∧ j ≤ M ∧ k ≤ p.length
  | [], _, _, _, _, ⟨h1, h2, h3⟩ => ⟨by omega, by omega, by omega⟩
  | x :: L, s, i, j, k, h => by
    obtain ⟨h1, h2, h3, h4, h5, h6, h7, h8, h9⟩ := h
    have := h9.le
    refine ⟨by omega, by omega, ?_⟩
    split at this <;> omega
theorem bool_ne {a b : Bool} (h : some a ≠ some b) : a = !b := by cases a <;> cases b <;> first | rfl | exact absurd rfl h
def prevS (L : List Reg) (n : Nat) : Option Bool := if n = 0 then none else (L[n - 1]?).map (·.2.2.2.2)
theorem prevS_succ (L : List Reg) (n : Nat) (h : n < L.length) : prevS L (n + 1) = some L[n].2.2.2.2 := by
  unfold prevS
  rw [if_neg (by omega), Nat.add_sub_cancel, List.getElem?_eq_getElem h]
  rfl

set_option maxRecDepth 100000 in
set_option maxHeartbeats 16000000 in
theorem reg_e01 (A A2 A3 : Option Addr) (n m c n2 m2 c2 n3 m3 c3 : Nat) (a' b' p' : List Tok) (w : World) (ha' : Toks w w.heap.size (.slice A m c) a') (hb' : Toks w w.heap.size (.slice A2 m2 c2) b') (hp' : Toks w w.heap.size (.slice A3 m3 c3) p')
    (hm : m ≤ 40) (hm2 : m2 ≤ 40) (HM : Hid (m = a'.length)) (HM2 : Hid (m2 = b'.length)) (HA : Hid (∀ W : World, Calls Try.prog 12 #[.slice A n c] W fun e w' => e = .returned (.slice A m c) ∧ W = w')) (HB : Hid (∀ W : World, Calls Try.prog 12 #[.slice A2 n2 c2] W fun e w' => e = .returned (.slice A2 m2 c2) ∧ W = w'))
    (hc3m : c3 ≤ 9223372036854775807) (hmc3 : m3 ≤ c3) (hcase : n3 ≤ 40 ∧ m3 = n3) (h0 : ¬ bothL a' b' = 0) :
    Calls Try.prog 10 #[.agg #[.slice A n c, .slice A2 n2 c2], .slice A3 n3 c3] w fun e w' => e = .returned (.bool true) ∧ Below w.heap.size w w' := by
  have hbA : Below w.heap.size w (w.alloc (.cells #[.slice A n c, .slice A2 n2 c2] 24)) := (Below.refl _ _).alloc (Nat.le_refl _) _
  have hm3e : m3 = n3 := hcase.2
  have hn40 : n3 ≤ 40 := hcase.1
  clear hcase
  subst hm3e
  have HLP : Hid (lpairsL a' b' p' = bothL a' b') := Lib.hid (by unfold lpairsL; rw [if_pos (by simp [h0])])
  have HLR : Hid (lregsL a' b' p' = []) := Lib.hid (by unfold lregsL; rw [if_neg (by rw [HLP.out]; exact h0)])
  have hne : (bothL a' b' != 0) = true := by simp [h0]
  have hne2 : (bothL a' b' == 0) = false := by simp [h0]
  clear h0
  go_enter Try.func10, Try.ntmps10
  go_wp2_with fail
  go_quiet (first | (go_at_call 12; exact quiet_left (HA.out _)) | (go_at_call 12; exact quiet_left (HB.out _)))
  go_wp2_with fail
  all_goals
    have hb0 := below_drewN hbA nq
    have ha0 := (ha'.below hb0).more hb0.size
    have hb0' := (hb'.below hb0).more hb0.size
    have hp0 := (hp'.below hb0).more hb0.size
    clear hbA
    refine (lregions_any _ _ _ a' b' p' _ ha0 hb0' hp0).mono ?_
    rw [HLP.out, HLR.out]
    rintro e w1 ⟨vl, rfl, hown, hk⟩
    have hl1 := hown.sl encR_length
    have hb1 := hb0.trans (hk.mono hb0.size)
    have ha1 := ha0.over hk
    have hb1' := hb0'.over hk
    have hp1 := hp0.over hk
    clear hb0 ha0 hb0' hp0 hk hown
    obtain ⟨AL, cL, rfl, hLc, hLm, _⟩ := hl1.reg
    go_wp2_with fail
    refine (known_any _).mono ?_
    rintro e w2 ⟨rfl, hk⟩
    have hb2 := hb1.trans (hk.mono hb1.size)
    have ha2 := ha1.over hk
    have hb2' := hb1'.over hk
    have hp2 := hp1.over hk
    have hl2 := hl1.over hk
    clear hb1 ha1 hb1' hp1 hl1 hk
    go_wp2_with fail
    refine (lboth_any _ _ a' b' _ ha2 hb2').mono ?_
    rintro e w3 ⟨rfl, hk⟩
    have hb3 := hb2.trans (hk.mono hb2.size)
    have ha3 := ha2.over hk
    have hb3' := hb2'.over hk
    have hp3 := hp2.over hk
    have hl3 := hl2.over hk
    clear hb2 ha2 hb2' hp2 hl2 hk
    go_wp2_with fail
    go_ret
    exact ⟨rfl, hb3⟩

set_option maxRecDepth 100000 in
set_option maxHeartbeats 16000000 in
theorem reg_e02 (A A2 A3 : Option Addr) (n m c n2 m2 c2 n3 m3 c3 : Nat) (a' b' p' : List Tok) (w : World) (ha' : Toks w w.heap.size (.slice A m c) a') (hb' : Toks w w.heap.size (.slice A2 m2 c2) b') (hp' : Toks w w.heap.size (.slice A3 m3 c3) p')
    (hm : m ≤ 40) (hm2 : m2 ≤ 40) (HM : Hid (m = a'.length)) (HM2 : Hid (m2 = b'.length)) (HA : Hid (∀ W : World, Calls Try.prog 12 #[.slice A n c] W fun e w' => e = .returned (.slice A m c) ∧ W = w')) (HB : Hid (∀ W : World, Calls Try.prog 12 #[.slice A2 n2 c2] W fun e w' => e = .returned (.slice A2 m2 c2) ∧ W = w'))
    (hc3m : c3 ≤ 9223372036854775807) (hmc3 : m3 ≤ c3) (hcase : 40 < n3 ∧ m3 = 40) (h0 : ¬ bothL a' b' = 0) :
    Calls Try.prog 10 #[.agg #[.slice A n c, .slice A2 n2 c2], .slice A3 n3 c3] w fun e w' => e = .returned (.bool true) ∧ Below w.heap.size w w' := by
  have hbA : Below w.heap.size w (w.alloc (.cells #[.slice A n c, .slice A2 n2 c2] 24)) := (Below.refl _ _).alloc (Nat.le_refl _) _
  have hm3e : m3 = 40 := hcase.2
  have hn40 : 40 < n3 := hcase.1
  clear hcase
  subst hm3e
  have HLP : Hid (lpairsL a' b' p' = bothL a' b') := Lib.hid (by unfold lpairsL; rw [if_pos (by simp [h0])])
  have HLR : Hid (lregsL a' b' p' = []) := Lib.hid (by unfold lregsL; rw [if_neg (by rw [HLP.out]; exact h0)])
  have hne : (bothL a' b' != 0) = true := by simp [h0]
  have hne2 : (bothL a' b' == 0) = false := by simp [h0]
  clear h0
  go_enter Try.func10, Try.ntmps10
  go_wp2_with fail
  go_quiet (first | (go_at_call 12; exact quiet_left (HA.out _)) | (go_at_call 12; exact quiet_left (HB.out _)))
  go_wp2_with fail
  all_goals
    have hb0 := below_drewN hbA nq
    have ha0 := (ha'.below hb0).more hb0.size
    have hb0' := (hb'.below hb0).more hb0.size
    have hp0 := (hp'.below hb0).more hb0.size
    clear hbA
    refine (lregions_any _ _ _ a' b' p' _ ha0 hb0' hp0).mono ?_
    rw [HLP.out, HLR.out]
    rintro e w1 ⟨vl, rfl, hown, hk⟩
    have hl1 := hown.sl encR_length
    have hb1 := hb0.trans (hk.mono hb0.size)
    have ha1 := ha0.over hk
    have hb1' := hb0'.over hk
    have hp1 := hp0.over hk
    clear hb0 ha0 hb0' hp0 hk hown
    obtain ⟨AL, cL, rfl, hLc, hLm, _⟩ := hl1.reg
    go_wp2_with fail
    refine (known_any _).mono ?_
    rintro e w2 ⟨rfl, hk⟩
    have hb2 := hb1.trans (hk.mono hb1.size)
    have ha2 := ha1.over hk
    have hb2' := hb1'.over hk
    have hp2 := hp1.over hk
    have hl2 := hl1.over hk
    clear hb1 ha1 hb1' hp1 hl1 hk
    go_wp2_with fail
    refine (lboth_any _ _ a' b' _ ha2 hb2').mono ?_
    rintro e w3 ⟨rfl, hk⟩
    have hb3 := hb2.trans (hk.mono hb2.size)
    have ha3 := ha2.over hk
    have hb3' := hb2'.over hk
    have hp3 := hp2.over hk
    have hl3 := hl2.over hk
    clear hb2 ha2 hb2' hp2 hl2 hk
    go_wp2_with fail
    go_ret
    exact ⟨rfl, hb3⟩

set_option maxRecDepth 100000 in
set_option maxHeartbeats 16000000 in
theorem reg_e11 (A A2 A3 : Option Addr) (n m c n2 m2 c2 n3 m3 c3 : Nat) (a' b' p' : List Tok) (w : World) (ha' : Toks w w.heap.size (.slice A m c) a') (hb' : Toks w w.heap.size (.slice A2 m2 c2) b') (hp' : Toks w w.heap.size (.slice A3 m3 c3) p')
    (hm : m ≤ 40) (hm2 : m2 ≤ 40) (HM : Hid (m = a'.length)) (HM2 : Hid (m2 = b'.length)) (HA : Hid (∀ W : World, Calls Try.prog 12 #[.slice A n c] W fun e w' => e = .returned (.slice A m c) ∧ W = w')) (HB : Hid (∀ W : World, Calls Try.prog 12 #[.slice A2 n2 c2] W fun e w' => e = .returned (.slice A2 m2 c2) ∧ W = w'))
    (hc3m : c3 ≤ 9223372036854775807) (hmc3 : m3 ≤ c3) (hcase : n3 ≤ 40 ∧ m3 = n3) (h0 : bothL a' b' = 0) (h2 : ¬ pairsL a' b' p' = 0) :
    Calls Try.prog 10 #[.agg #[.slice A n c, .slice A2 n2 c2], .slice A3 n3 c3] w fun e w' => e = .returned (.bool true) ∧ Below w.heap.size w w' := by
  have hbA : Below w.heap.size w (w.alloc (.cells #[.slice A n c, .slice A2 n2 c2] 24)) := (Below.refl _ _).alloc (Nat.le_refl _) _
  have hm3e : m3 = n3 := hcase.2
  have hn40 : n3 ≤ 40 := hcase.1
  clear hcase
  subst hm3e
  have HLP : Hid (lpairsL a' b' p' = pairsL a' b' p') := Lib.hid (by unfold lpairsL; rw [if_neg (by simp [h0])])
  have HLR : Hid (lregsL a' b' p' = []) := Lib.hid (by unfold lregsL; rw [if_neg (by rw [HLP.out]; exact h2)])
  have hne : (pairsL a' b' p' != 0) = true := by simp [h2]
  have hne2 : (pairsL a' b' p' == 0) = false := by simp [h2]
  have HB0 := Lib.hid h0
  clear h0 h2
  go_enter Try.func10, Try.ntmps10
  go_wp2_with fail
  go_quiet (first | (go_at_call 12; exact quiet_left (HA.out _)) | (go_at_call 12; exact quiet_left (HB.out _)))
  go_wp2_with fail
  all_goals
    have hb0 := below_drewN hbA nq
    have ha0 := (ha'.below hb0).more hb0.size
    have hb0' := (hb'.below hb0).more hb0.size
    have hp0 := (hp'.below hb0).more hb0.size
    clear hbA
    refine (lregions_any _ _ _ a' b' p' _ ha0 hb0' hp0).mono ?_
    rw [HLP.out, HLR.out]
    rintro e w1 ⟨vl, rfl, hown, hk⟩
    have hl1 := hown.sl encR_length
    have hb1 := hb0.trans (hk.mono hb0.size)
    have ha1 := ha0.over hk
    have hb1' := hb0'.over hk
    have hp1 := hp0.over hk
    clear hb0 ha0 hb0' hp0 hk hown
    obtain ⟨AL, cL, rfl, hLc, hLm, _⟩ := hl1.reg
    go_wp2_with fail
    refine (known_any _).mono ?_
    rintro e w2 ⟨rfl, hk⟩
    have hb2 := hb1.trans (hk.mono hb1.size)
    have ha2 := ha1.over hk
    have hb2' := hb1'.over hk
    have hp2 := hp1.over hk
    have hl2 := hl1.over hk
    clear hb1 ha1 hb1' hp1 hl1 hk
    go_wp2_with fail
    refine (lboth_any _ _ a' b' _ ha2 hb2').mono ?_
    rw [HB0.out]
    rintro e w3 ⟨rfl, hk⟩
    have hb3 := hb2.trans (hk.mono hb2.size)
    have ha3 := ha2.over hk
    have hb3' := hb2'.over hk
    have hp3 := hp2.over hk
    have hl3 := hl2.over hk
    clear hb2 ha2 hb2' hp2 hl2 hk
    go_wp2_with fail
    refine (checkPairs_any _ _ _ a' b' p' _ ha3 hb3' hp3).mono ?_
    rintro e w4 ⟨rfl, hk⟩
    have hb4 := hb3.trans (hk.mono hb3.size)
    have ha4 := ha3.over hk
    have hb4' := hb3'.over hk
    have hp4 := hp3.over hk
    have hl4 := hl3.over hk
    clear hb3 ha3 hb3' hp3 hl3 hk
    go_wp2_with fail
    go_ret
    exact ⟨rfl, hb4⟩

set_option maxRecDepth 100000 in
set_option maxHeartbeats 16000000 in
theorem reg_e12 (A A2 A3 : Option Addr) (n m c n2 m2 c2 n3 m3 c3 : Nat) (a' b' p' : List Tok) (w : World) (ha' : Toks w w.heap.size (.slice A m c) a') (hb' : Toks w w.heap.size (.slice A2 m2 c2) b') (hp' : Toks w w.heap.size (.slice A3 m3 c3) p')
    (hm : m ≤ 40) (hm2 : m2 ≤ 40) (HM : Hid (m = a'.length)) (HM2 : Hid (m2 = b'.length)) (HA : Hid (∀ W : World, Calls Try.prog 12 #[.slice A n c] W fun e w' => e = .returned (.slice A m c) ∧ W = w')) (HB : Hid (∀ W : World, Calls Try.prog 12 #[.slice A2 n2 c2] W fun e w' => e = .returned (.slice A2 m2 c2) ∧ W = w'))
    (hc3m : c3 ≤ 9223372036854775807) (hmc3 : m3 ≤ c3) (hcase : 40 < n3 ∧ m3 = 40) (h0 : bothL a' b' = 0) (h2 : ¬ pairsL a' b' p' = 0) :
    Calls Try.prog 10 #[.agg #[.slice A n c, .slice A2 n2 c2], .slice A3 n3 c3] w fun e w' => e = .returned (.bool true) ∧ Below w.heap.size w w' := by
  have hbA : Below w.heap.size w (w.alloc (.cells #[.slice A n c, .slice A2 n2 c2] 24)) := (Below.refl _ _).alloc (Nat.le_refl _) _
  have hm3e : m3 = 40 := hcase.2
  have hn40 : 40 < n3 := hcase.1
  clear hcase
  subst hm3e
  have HLP : Hid (lpairsL a' b' p' = pairsL a' b' p') := Lib.hid (by unfold lpairsL; rw [if_neg (by simp [h0])])
  have HLR : Hid (lregsL a' b' p' = []) := Lib.hid (by unfold lregsL; rw [if_neg (by rw [HLP.out]; exact h2)])
  have hne : (pairsL a' b' p' != 0) = true := by simp [h2]
  have hne2 : (pairsL a' b' p' == 0) = false := by simp [h2]
  have HB0 := Lib.hid h0
  clear h0 h2
  go_enter Try.func10, Try.ntmps10
  go_wp2_with fail
  go_quiet (first | (go_at_call 12; exact quiet_left (HA.out _)) | (go_at_call 12; exact quiet_left (HB.out _)))
  go_wp2_with fail
  all_goals
    have hb0 := below_drewN hbA nq
    have ha0 := (ha'.below hb0).more hb0.size
    have hb0' := (hb'.below hb0).more hb0.size
    have hp0 := (hp'.below hb0).more hb0.size
    clear hbA
    refine (lregions_any _ _ _ a' b' p' _ ha0 hb0' hp0).mono ?_
    rw [HLP.out, HLR.out]
    rintro e w1 ⟨vl, rfl, hown, hk⟩
    have hl1 := hown.sl encR_length
    have hb1 := hb0.trans (hk.mono hb0.size)
    have ha1 := ha0.over hk
    have hb1' := hb0'.over hk
    have hp1 := hp0.over hk
    clear hb0 ha0 hb0' hp0 hk hown
    obtain ⟨AL, cL, rfl, hLc, hLm, _⟩ := hl1.reg
    go_wp2_with fail
    refine (known_any _).mono ?_
    rintro e w2 ⟨rfl, hk⟩
    have hb2 := hb1.trans (hk.mono hb1.size)
    have ha2 := ha1.over hk
    have hb2' := hb1'.over hk
    have hp2 := hp1.over hk
    have hl2 := hl1.over hk
    clear hb1 ha1 hb1' hp1 hl1 hk
    go_wp2_with fail
    refine (lboth_any _ _ a' b' _ ha2 hb2').mono ?_
    rw [HB0.out]
    rintro e w3 ⟨rfl, hk⟩
    have hb3 := hb2.trans (hk.mono hb2.size)
    have ha3 := ha2.over hk
    have hb3' := hb2'.over hk
    have hp3 := hp2.over hk
    have hl3 := hl2.over hk
    clear hb2 ha2 hb2' hp2 hl2 hk
    go_wp2_with fail
    refine (checkPairs_any _ _ _ a' b' p' _ ha3 hb3' hp3).mono ?_
    rintro e w4 ⟨rfl, hk⟩
    have hb4 := hb3.trans (hk.mono hb3.size)
    have ha4 := ha3.over hk
    have hb4' := hb3'.over hk
    have hp4 := hp3.over hk
    have hl4 := hl3.over hk
    clear hb3 ha3 hb3' hp3 hl3 hk
    go_wp2_with fail
    go_ret
    exact ⟨rfl, hb4⟩
end Go.Proofs.Ytbpegoekjlehcaa
