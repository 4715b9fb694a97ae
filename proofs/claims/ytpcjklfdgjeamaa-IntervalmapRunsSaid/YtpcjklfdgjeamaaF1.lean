/- Walks: FromRuns, and the reference's Check. -/
import Derived.Test.YtpcjklfdgjeamaaR3
namespace Go.Proofs.Ytpcjklfdgjeamaa
open Go.RowKit

/-- The first error of a list of runs, from an offset on, behind a value. -/
def chkF : Option Int → Int → List Rn → Int
  | _, _, [] => 0
  | p, q, r :: R => if r.1 ≠ q ∨ r.2.1 ≤ r.1 then 6 else if 1048576 < r.2.1 then 2 else if p = some r.2.2 then 15 else chkF (some r.2.2) r.2.1 R
/-- The value of the run ahead of a place. -/
def pvr (l : List Rn) : Nat → Option Int
  | 0 => none
  | k + 1 => (l[k]?).map fun r => r.2.2
theorem chk_drop (l : List Rn) (k : Nat) (h : k < l.length) (q : Int) : chkF (pvr l k) q (l.drop k) = if l[k].1 ≠ q ∨ l[k].2.1 ≤ l[k].1 then 6 else if 1048576 < l[k].2.1 then 2 else if pvr l k = some l[k].2.2 then 15 else chkF (pvr l (k + 1)) l[k].2.1 (l.drop (k + 1)) := by
  rw [List.drop_eq_getElem_cons h]
  have : pvr l (k + 1) = some l[k].2.2 := by simp [pvr, List.getElem?_eq_getElem h]
  rw [this]
  rfl
theorem chk_ok : ∀ (l : List Rn) (p : Option Int) (q : Int), chkF p q l = 0 → Cont q l ∧ (l = [] ∨ endOf q l ≤ 1048576)
  | [], _, _, _ => ⟨trivial, .inl rfl⟩
  | r :: l, p, q, h => by
    unfold chkF at h
    by_cases h1 : r.1 ≠ q ∨ r.2.1 ≤ r.1
    · rw [if_pos h1] at h; omega
    · rw [if_neg h1] at h
      by_cases h2 : 1048576 < r.2.1
      · rw [if_pos h2] at h; omega
      · rw [if_neg h2] at h
        by_cases h3 : p = some r.2.2
        · rw [if_pos h3] at h; omega
        · rw [if_neg h3] at h
          obtain ⟨c, e⟩ := chk_ok l _ _ h
          have hr : r.1 = q := Classical.byContradiction fun hc => h1 (.inl hc)
          have hw : ¬ r.2.1 ≤ r.1 := fun hc => h1 (.inr hc)
          refine ⟨⟨hr, by omega, c⟩, .inr ?_⟩
          show endOf r.2.1 l ≤ 1048576
          rcases e with rfl | e
          · show r.2.1 ≤ 1048576; omega
          · exact e

/-- What FromRuns returns. -/
def FromPost (w : World) (l : List Rn) (e : Ending) (w' : World) : Prop :=
  (chkF none 0 l = 0 ∧ ∃ m, e = .returned (.tuple #[.pointer (some ⟨m, 0, none⟩), .int .i64 0]) ∧ w.heap.size ≤ m ∧ MapAt w' m l ∧ Below w.heap.size w w') ∨
  (chkF none 0 l ≠ 0 ∧ e = .returned (.tuple #[.pointer none, .int .i64 (chkF none 0 l)]) ∧ Below w.heap.size w w')
theorem errp {w w' : World} {l : List Rn} {e : Ending} {E : Int} (h : chkF none 0 l = E) (he : e = .returned (.tuple #[.pointer none, .int .i64 E])) (h0 : E ≠ 0) (hb : Below w.heap.size w w') : FromPost w l e w' :=
  .inr ⟨by rw [h]; exact h0, by rw [h]; exact he, hb⟩

set_option maxRecDepth 100000 in
set_option maxHeartbeats 2000000 in
theorem from_any (v : Value) (l : List Rn) (w : World) (h : RunsV w w.heap.size v l) (hl : l.length ≤ 100000) : Calls Try.prog 17 #[v] w (FromPost w l) := by
  obtain ⟨A, c, rfl, hlc, hc, hR⟩ := h.run
  have HR := Lib.hid hR
  have HSL := Lib.hid h
  clear h hR
  obtain ⟨n, hn⟩ : ∃ n, n = l.length := ⟨_, rfl⟩
  rw [← hn] at hlc hl HSL ⊢
  have HN := Lib.hid hn
  clear hn
  go_enter Try.func17, Try.ntmps17
  go_wp2
  go_loopw [4, 5, 9] (fun qv _ kv wr => ∃ (k : Nat) (q : Int), k ≤ n ∧ kv = .int .i64 k ∧ qv = .int .i64 q ∧ Hid (chkF none 0 l = chkF (pvr l k) q (l.drop k)) ∧ Below w.heap.size w wr) (fun _ _ kv _ => n - (intOf kv).toNat)
  case atStart => exact ⟨0, 0, Nat.zero_le _, rfl, rfl, Lib.hid rfl, Below.refl _ _⟩
  case round =>
    obtain ⟨k, q, hk, rfl, rfl, HJ, hbr⟩ := hrel
    have hbz := hbr.size
    by_cases hlt : k < n
    · obtain ⟨b, oo, rfl, hbB, g1, g2, g3⟩ := (HR.out.below hbr) k (by rw [← HN.out]; exact hlt)
      have HS := Lib.hid (chk_drop l k (by rw [← HN.out]; exact hlt) q)
      obtain ⟨x, hx⟩ : ∃ x, x = l[k]'(by rw [← HN.out]; exact hlt) := ⟨_, rfl⟩
      rw [← hx] at g1 g2 g3 HS
      clear hx
      obtain ⟨x0, x1, x2⟩ := x
      simp only at g1 g2 g3 HS
      have hbA := hbr.alloc hbr.size (.cells #[.int .i64 x0, .int .i64 x1, .int .i64 x2] 31)
      by_cases h1 : x0 = q
      · subst h1
        have t1 : (x0 != x0) = false := by simp
        by_cases h2 : x1 ≤ x0
        · have HV : Hid (chkF none 0 l = 6) := Lib.hid (by rw [HJ.out, HS.out, if_pos (.inr h2)])
          clear HS
          go_wp2
          go_ret2
          exact errp HV.out rfl (by decide) hbA
        · by_cases h3 : 1048576 < x1
          · have HV : Hid (chkF none 0 l = 2) := Lib.hid (by rw [HJ.out, HS.out, if_neg (by omega), if_pos h3])
            clear HS
            go_wp2
            go_ret2
            exact errp HV.out rfl (by decide) hbA
          · by_cases hk0 : k = 0
            · subst hk0
              simp only [Nat.zero_mul, Nat.add_zero] at g1 g2 g3
              have HV : Hid (chkF none 0 l = chkF (pvr l (0 + 1)) x1 (l.drop (0 + 1))) := Lib.hid (by rw [HJ.out, HS.out, if_neg (by omega), if_neg h3, if_neg (by simp [pvr])])
              have td : decide ((0 : Int) < 0) = false := by simp
              clear HS
              go_wp2
              go_quiet (fail)
              go_wp2
              go_roundw
              case rel => exact ⟨0 + 1, x1, by omega, by go_num, rfl, HV, (below_drewN hbA _)⟩
              case measure => simp [intOf]; omega
            · obtain ⟨j, hj⟩ : ∃ j, k = j + 1 := ⟨k - 1, by omega⟩
              subst hj
              obtain ⟨b', oo', he, _, _, _, g4⟩ := (HR.out.below hbr) j (by rw [← HN.out]; omega)
              injection he with he
              injection he with he1 he2
              subst he1 he2
              obtain ⟨y, hy⟩ : ∃ y, y = (l[j]'(by rw [← HN.out]; omega)).2.2 := ⟨_, rfl⟩
              rw [← hy] at g4
              have hpv : pvr l (j + 1) = some y := by rw [hy]; simp [pvr, List.getElem?_eq_getElem (show j < l.length by rw [← HN.out]; omega)]
              have HPV := Lib.hid hpv
              have g4a := cell_over g4 ((Below.refl wr.heap.size wr).alloc (Nat.le_refl _) (.cells #[.int .i64 x0, .int .i64 x1, .int .i64 x2] 31))
              have hw1 : IntKind.i64.wrap (((j + 1 : Nat) : Int) - 1) = (j : Int) := by rw [IntWalk.i64_in _ (by omega)]; omega
              have hw3 : IntKind.i64.wrap (j : Int) = (j : Int) := IntWalk.i64_in _ (by omega)
              have hw2 : IntKind.i64.wrap ((j : Int) + 1 - 1) = (j : Int) := by rw [IntWalk.i64_in _ (by omega)]; omega
              have td : decide ((0 : Int) < (j : Int) + 1) = true := by simp only [decide_eq_true_eq]; omega
              have td2 : decide ((0 : Int) < ((j + 1 : Nat) : Int)) = true := by simp only [decide_eq_true_eq]; omega
              have hjn : (j : Int) < (n : Int) := by omega
              have hj0 : (0 : Int) ≤ (j : Int) := by omega
              have hjn1 : (j : Int) + 1 < (n : Int) := by omega
              clear hy hpv hk0
              by_cases hxy : x2 = y
              · subst hxy
                have HV : Hid (chkF none 0 l = 15) := Lib.hid (by rw [HJ.out, HS.out, if_neg (by omega), if_neg h3, if_pos HPV.out])
                have hq : (x2 == x2) = true := by simp
                clear HS
                go_wp2
                go_quiet (fail)
                go_wp2
                go_ret2
                exact errp HV.out rfl (by decide) (below_drewN hbA _)
              · have HV : Hid (chkF none 0 l = chkF (pvr l (j + 1 + 1)) x1 (l.drop (j + 1 + 1))) := Lib.hid (by rw [HJ.out, HS.out, if_neg (by omega), if_neg h3, if_neg (by rw [HPV.out]; simpa using fun h => hxy h.symm)])
                have hq : (x2 == y) = false := by simpa using hxy
                clear HS hxy
                go_wp2
                go_quiet (fail)
                go_wp2
                go_roundw
                case rel => exact ⟨j + 1 + 1, x1, by omega, by go_num, rfl, HV, (below_drewN hbA _)⟩
                case measure => simp [intOf]; omega
      · have HV : Hid (chkF none 0 l = 6) := Lib.hid (by rw [HJ.out, HS.out, if_pos (.inl h1)])
        have t1 : (x0 != q) = true := by simpa using h1
        clear HS h1
        go_wp2
        go_ret2
        exact errp HV.out rfl (by decide) hbA
    · have HV : Hid (chkF none 0 l = 0) := Lib.hid (by rw [HJ.out, List.drop_of_length_le (by have := HN.out; omega)]; rfl)
      go_wp2_with fail
      refine (clone_any _ l wr (HSL.out.below hbr |>.more hbz) (by have := HN.out; omega)).mono ?_
      rintro e w1 ⟨v', rfl, ho, hb⟩
      obtain ⟨A', c', rfl, _, _⟩ := ho.shape
      have hs := ho.sl encR_length
      have hb1 := hbr.trans (hb.mono hbz)
      have HM : Hid (MapAt (w1.alloc (.cells #[.slice A' l.length c'] 78)) w1.heap.size l) := Lib.hid ⟨_, heap_alloc_new _ _, hs.over ((Below.refl _ _).alloc (Nat.le_refl _) _)⟩
      have HB := Lib.hid (hb1.alloc hb1.size (.cells #[.slice A' l.length c'] 78))
      have hge := hb1.size
      clear ho hs hb hb1
      go_wp2
      go_ret2
      exact .inl ⟨HV.out, _, rfl, hge, HM.out, HB.out⟩

set_option maxRecDepth 100000 in
set_option maxHeartbeats 2000000 in
theorem rcheck_any (v : Value) (l : List Rn) (w : World) (h : RunsV w w.heap.size v l) (hl : l.length ≤ 100000) :
    Calls Try.prog 18 #[v, .int .i64 1048576] w fun e w' => e = .returned (.int .i64 (chkF none 0 l)) ∧ ∃ n, w' = w.drewN n := by
  obtain ⟨A, c, rfl, hlc, hc, hR⟩ := h.run
  have HR := Lib.hid hR
  clear h hR
  obtain ⟨n, hn⟩ : ∃ n, n = l.length := ⟨_, rfl⟩
  rw [← hn] at hlc hl ⊢
  have HN := Lib.hid hn
  clear hn
  go_enter Try.func18, Try.ntmps18
  go_wp2
  go_loopw [5, 6] (fun qv kv wr => ∃ (k : Nat) (q : Int), k ≤ n ∧ kv = .int .i64 k ∧ qv = .int .i64 q ∧ Hid (chkF none 0 l = chkF (pvr l k) q (l.drop k)) ∧ ∃ nq, wr = w.drewN nq) (fun _ kv _ => n - (intOf kv).toNat)
  case atStart => exact ⟨0, 0, Nat.zero_le _, rfl, rfl, Lib.hid rfl, ⟨0, rfl⟩⟩
  case round =>
    obtain ⟨k, q, hk, rfl, rfl, HJ, nq0, rfl⟩ := hrel
    by_cases hlt : k < n
    · obtain ⟨b, oo, rfl, hbB, g1, g2, g3⟩ := HR.out k (by rw [← HN.out]; exact hlt)
      have HS := Lib.hid (chk_drop l k (by rw [← HN.out]; exact hlt) q)
      obtain ⟨x, hx⟩ : ∃ x, x = l[k]'(by rw [← HN.out]; exact hlt) := ⟨_, rfl⟩
      rw [← hx] at g1 g2 g3 HS
      clear hx
      obtain ⟨x0, x1, x2⟩ := x
      simp only at g1 g2 g3 HS
      by_cases h1 : x0 = q
      · subst h1
        have t1 : (x0 != x0) = false := by simp
        by_cases h2 : x1 ≤ x0
        · have HV : Hid (chkF none 0 l = 6) := Lib.hid (by rw [HJ.out, HS.out, if_pos (.inr h2)])
          clear HS
          go_wp2
          go_quiet (fail)
          go_wp2
          go_ret
          exact ⟨ret_int HV.out.symm, _, by first | rfl | exact World.drewN_drewN _ _ _⟩
        · by_cases h3 : 1048576 < x1
          · have HV : Hid (chkF none 0 l = 2) := Lib.hid (by rw [HJ.out, HS.out, if_neg (by omega), if_pos h3])
            clear HS
            go_wp2
            go_quiet (fail)
            go_wp2
            go_ret
            exact ⟨ret_int HV.out.symm, _, by first | rfl | exact World.drewN_drewN _ _ _⟩
          · by_cases hk0 : k = 0
            · subst hk0
              simp only [Nat.zero_mul, Nat.add_zero] at g1 g2 g3
              have HV : Hid (chkF none 0 l = chkF (pvr l (0 + 1)) x1 (l.drop (0 + 1))) := Lib.hid (by rw [HJ.out, HS.out, if_neg (by omega), if_neg h3, if_neg (by simp [pvr])])
              have td : decide ((0 : Int) < 0) = false := by simp
              clear HS
              go_wp2
              go_quiet (fail)
              go_wp2
              go_quiet (fail)
              go_wp2
              go_roundw
              case rel => exact ⟨0 + 1, x1, by omega, by go_num, rfl, HV, ⟨_, by first | rfl | exact World.drewN_drewN _ _ _⟩⟩
              case measure => simp [intOf]; omega
            · obtain ⟨j, hj⟩ : ∃ j, k = j + 1 := ⟨k - 1, by omega⟩
              subst hj
              obtain ⟨b', oo', he, _, _, _, g4⟩ := HR.out j (by rw [← HN.out]; omega)
              injection he with he
              injection he with he1 he2
              subst he1 he2
              obtain ⟨y, hy⟩ : ∃ y, y = (l[j]'(by rw [← HN.out]; omega)).2.2 := ⟨_, rfl⟩
              rw [← hy] at g4
              have hpv : pvr l (j + 1) = some y := by rw [hy]; simp [pvr, List.getElem?_eq_getElem (show j < l.length by rw [← HN.out]; omega)]
              have HPV := Lib.hid hpv
              have hw1 : IntKind.i64.wrap (((j + 1 : Nat) : Int) - 1) = (j : Int) := by rw [IntWalk.i64_in _ (by omega)]; omega
              have hw3 : IntKind.i64.wrap (j : Int) = (j : Int) := IntWalk.i64_in _ (by omega)
              have hw2 : IntKind.i64.wrap ((j : Int) + 1 - 1) = (j : Int) := by rw [IntWalk.i64_in _ (by omega)]; omega
              have td : decide ((0 : Int) < (j : Int) + 1) = true := by simp only [decide_eq_true_eq]; omega
              have td2 : decide ((0 : Int) < ((j + 1 : Nat) : Int)) = true := by simp only [decide_eq_true_eq]; omega
              have hjn : (j : Int) < (n : Int) := by omega
              have hj0 : (0 : Int) ≤ (j : Int) := by omega
              have hjn1 : (j : Int) + 1 < (n : Int) := by omega
              clear hy hpv hk0
              by_cases hxy : x2 = y
              · subst hxy
                have HV : Hid (chkF none 0 l = 15) := Lib.hid (by rw [HJ.out, HS.out, if_neg (by omega), if_neg h3, if_pos HPV.out])
                have hq : (x2 == x2) = true := by simp
                clear HS
                go_wp2
                go_quiet (fail)
                go_wp2
                go_quiet (fail)
                go_wp2
                go_ret
                exact ⟨ret_int HV.out.symm, _, by first | rfl | exact World.drewN_drewN _ _ _⟩
              · have HV : Hid (chkF none 0 l = chkF (pvr l (j + 1 + 1)) x1 (l.drop (j + 1 + 1))) := Lib.hid (by rw [HJ.out, HS.out, if_neg (by omega), if_neg h3, if_neg (by rw [HPV.out]; simpa using fun h => hxy h.symm)])
                have hq : (x2 == y) = false := by simpa using hxy
                clear HS hxy
                go_wp2
                go_quiet (fail)
                go_wp2
                go_quiet (fail)
                go_wp2
                go_roundw
                case rel => exact ⟨j + 1 + 1, x1, by omega, by go_num, rfl, HV, ⟨_, by first | rfl | exact World.drewN_drewN _ _ _⟩⟩
                case measure => simp [intOf]; omega
      · have HV : Hid (chkF none 0 l = 6) := Lib.hid (by rw [HJ.out, HS.out, if_pos (.inl h1)])
        have t1 : (x0 != q) = true := by simpa using h1
        clear HS h1
        go_wp2
        go_quiet (fail)
        go_wp2
        go_ret
        exact ⟨ret_int HV.out.symm, _, by first | rfl | exact World.drewN_drewN _ _ _⟩
    · have HV : Hid (chkF none 0 l = 0) := Lib.hid (by rw [HJ.out, List.drop_of_length_le (by have := HN.out; omega)]; rfl)
      go_wp2
      go_ret
      exact ⟨ret_int HV.out.symm, _, rfl⟩
end Go.Proofs.Ytpcjklfdgjeamaa
