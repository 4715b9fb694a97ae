/- Walk: IntervalmapRuns. -/
import Derived.Test.YtpcjklfdgjeamaaF1
import Derived.Test.YtpcjklfdgjeamaaW10
namespace Go.Proofs.Ytpcjklfdgjeamaa
open Go.RowKit

/-- Behind the first loop: the law with the list that was cut. -/
theorem len_qr {m : Nat} {R : List Rn} {W : World} (h : MapAt W m R) {E : Int} (hE : endOf 0 R = E) (n : Nat) :
    Calls Try.prog 14 #[.pointer (some ⟨m, 0, none⟩)] (W.drewN n) fun e w'' => e = .returned (.int .i64 E) ∧ ∃ k, w'' = W.drewN k := by
  rw [← hE]; exact len_quiet h n

set_option maxRecDepth 100000 in
set_option maxHeartbeats 4000000 in
theorem runs_any (v : Value) (l0 : List Rn) (w : World) (h0 : RunsV w w.heap.size v l0) : Calls Try.prog 5 #[v] w fun e w' => e = .returned (.bool true) ∧ Below w.heap.size w w' := by
  obtain ⟨i0, hi, hz0, hz1, hz2⟩ := info_parts info41
  obtain ⟨A, c, rfl, hn, hc, hzz⟩ := id h0
  clear hzz
  obtain ⟨n0, hn0⟩ : ∃ n, n = l0.length := ⟨_, rfl⟩
  obtain ⟨n, hnm⟩ : ∃ n, n = min n0 60 := ⟨_, rfl⟩
  have h1 := h0.take 60 A l0.length c rfl
  rw [← hn0, ← hnm] at h1
  obtain ⟨l, hl⟩ : ∃ l, l = l0.take 60 := ⟨_, rfl⟩
  rw [← hl] at h1
  have hln : l.length = n := by rw [hl, List.length_take, ← hn0, hnm]; omega
  rw [← hn0] at hn ⊢
  have hcm : c ≤ 9223372036854775807 := by unfold maxLen at hc; omega
  have hminI : min (n0 : Int) 60 = (n : Int) := by omega
  have hn60 : n ≤ 60 := by omega
  have hnc : n ≤ c := by omega
  have HS := Lib.hid h1
  have HN := Lib.hid hln
  obtain ⟨_, _, he, _, _, hR⟩ := h1.run
  injection he with he he2 he3
  subst he
  clear he2 he3
  have HR := Lib.hid hR
  clear hl hln hn0 hnm h0 h1 hc hR
  go_enter Try.func5, Try.ntmps5
  go_wp2
  all_goals
    first
      | (have e3 : n0 = n := by omega
         rw [e3])
      | (have e3 : (60 : Nat) = n := by omega
         rw [show Value.slice A 60 c = Value.slice A n c from by rw [e3]])
    clear e3
    go_loopw [3, 4] (fun ov iv wr => ∃ k : Nat, k ≤ n ∧ iv = .int .i64 k ∧ Own encR 3 41 wr w.heap.size ov (l.take k) ∧ Below w.heap.size w wr) (fun _ iv _ => n - (intOf iv).toNat)
    case atStart => exact ⟨0, Nat.zero_le _, rfl, Own.nil _ _, Below.refl _ _⟩
    case round =>
      obtain ⟨k, hk, rfl, hown, hbr⟩ := hrel
      have hbz := hbr.size
      by_cases hlt : k < n
      · have hlk : k < l.length := by rw [HN.out]; exact hlt
        obtain ⟨b, oo, rfl, hbB, g1, g2, g3⟩ := (HR.out.below hbr) k hlk
        have HT : Hid (l.take (k + 1) = l.take k ++ [l[k]]) := Lib.hid (List.take_succ_eq_append_getElem hlk)
        have HTL : Hid ((l.take k).length = k) := Lib.hid (by rw [List.length_take]; omega)
        obtain ⟨o, ho⟩ : ∃ o, o = l.take k := ⟨_, rfl⟩
        rw [← ho] at hown HT HTL
        clear ho
        obtain ⟨x, hx⟩ : ∃ x, x = l[k] := ⟨_, rfl⟩
        rw [← hx] at g1 g2 g3 HT
        clear hx
        obtain ⟨x0, x1, x2⟩ := x
        simp only at g1 g2 g3
        obtain ⟨Ao, co, rfl, _, _⟩ := hown.shape
        have hownX := Own.drew (hown.alloc (.cells #[.int .i64 x0, .int .i64 x1, .int .i64 x2] 41))
        have hslX := (Own.drew (own_one (enc := encR) (sz := 3) (E := 41) wr (x0, x1, x2) rfl 0 (Nat.zero_le _))).sl encR_length
        have hbA : Below w.heap.size w ((wr.alloc (.cells #[.int .i64 x0, .int .i64 x1, .int .i64 x2] 41)).drew) := (hbr.alloc hbz _).drew
        have HA := Lib.hid hownX
        have HX := Lib.hid hslX
        have hkI : (k : Int) < (n : Int) := by omega
        have hkI0 : (0 : Int) ≤ (k : Int) := by omega
        clear hownX hslX hown
        go_wp2
        go_region_held3 (fun w' => w'.cell? ⟨b, oo + k * 3, none⟩ = some (.int .i64 x0) ∧ w'.cell? ⟨b, oo + k * 3 + 1, none⟩ = some (.int .i64 x1) ∧ w'.cell? ⟨b, oo + k * 3 + 2, none⟩ = some (.int .i64 x2))
          (first
            | exact ⟨q1, q2, q3⟩
            | exact ⟨cell_over g1 ((Below.refl wr.heap.size wr).alloc (Nat.le_refl _) _).drew, cell_over g2 ((Below.refl wr.heap.size wr).alloc (Nat.le_refl _) _).drew, cell_over g3 ((Below.refl wr.heap.size wr).alloc (Nat.le_refl _) _).drew⟩
            | exact ⟨cell_over g1 (Below.refl _ _).drew, cell_over g2 (Below.refl _ _).drew, cell_over g3 (Below.refl _ _).drew⟩
            | exact ⟨g1, g2, g3⟩)
          (first
            | (refine step_append_sl _ (by rfl) _ _ _ (by rfl) w.heap.size 41 i0 _ 24 Try.underlying40 hi hz0 hz1 hz2 rfl (by decide) encR_length encR_one _ o (by rfl) HA.out _ _ [(x0, x1, x2)] (by rfl) HX.out (by rw [HTL.out]; simp; omega) (by rw [HTL.out]; simp; omega) (by simp; omega) ?_; intro v' w5 hown5 hg5; have hb5 : Below w.heap.size w w5 := hbA.grown hg5 (by simp; omega) (fun q hq => (HA.out.lt q hq).1); have q1 := ((hb5.cell (p := ⟨b, oo + k * 3, none⟩) hbB).trans ((hbr.cell (p := ⟨b, oo + k * 3, none⟩) hbB).symm)).trans g1; have q2 := ((hb5.cell (p := ⟨b, oo + k * 3 + 1, none⟩) hbB).trans ((hbr.cell (p := ⟨b, oo + k * 3 + 1, none⟩) hbB).symm)).trans g2; have q3 := ((hb5.cell (p := ⟨b, oo + k * 3 + 2, none⟩) hbB).trans ((hbr.cell (p := ⟨b, oo + k * 3 + 2, none⟩) hbB).symm)).trans g3))
        rw [← HT.out] at hown5
        clear q1 q2 q3 g1 g2 g3
        go_wp2
        go_roundw
        case rel => exact ⟨k + 1, by omega, by go_num, hown5, hb5⟩
        case measure => simp [intOf]; omega
      · have HTK : Hid (l.take k = l) := Lib.hid (List.take_of_length_le (by have := HN.out; omega))
        rw [HTK.out] at hown
        have hs := hown.sl encR_length
        have hl0 := HS.out.below hbr |>.more hbz
        obtain ⟨Ao, co, rfl, hq1, hq2⟩ := hown.shape
        have hln := HN.out
        rw [hln] at hs
        have HSW := Lib.hid hs
        have HLW := Lib.hid hl0
        have HBR := Lib.hid hbr
        rw [hln]
        clear hs hl0 hown hq1 hq2 hbr hln
        go_wp2_with fail
        refine (from_any _ l wr HLW.out (by have := HN.out; omega)).mono ?_
        intro e w1 hF
        obtain ⟨E, hE⟩ : ∃ E, E = chkF none 0 l := ⟨_, rfl⟩
        have HEE : Hid (∀ (W : World), RunsV W W.heap.size (.slice Ao n co) l → Calls Try.prog 18 #[.slice Ao n co, .int .i64 1048576] W fun e w' => e = .returned (.int .i64 E) ∧ Below W.heap.size W w') := Lib.hid fun W hW => by
          rw [hE]
          exact (rcheck_any _ l W hW (by have := HN.out; omega)).mono fun e w' ⟨he, k, hw⟩ => ⟨he, by rw [hw]; exact below_drewN (Below.refl _ _) k⟩
        unfold FromPost at hF
        rw [← hE] at hF
        have HEC := Lib.hid hE
        clear hE
        rcases hF with ⟨hE0, m, rfl, hm, hM, hb1⟩ | ⟨hE0, rfl, hb1⟩
        · subst hE0
          have hcont := (chk_ok l none 0 HEC.out.symm).1
          have b1 := HBR.out.trans (hb1.mono HBR.out.size)
          have s1 := HSW.out.over hb1
          have a1 := (HLW.out.below hb1).more hb1.size
          clear hb1
          go_wp2_with fail
          refine (known_any w1).mono ?_
          rintro e w2 ⟨rfl, hk2⟩
          have b2 := b1.trans (hk2.mono b1.size)
          have s2 := s1.over hk2
          have a2 := a1.over hk2
          have M2 := hM.below hk2
          clear b1 s1 a1 hk2 hM
          go_wp2_with fail
          refine (HEE.out w2 s2).mono ?_
          rintro e w3 ⟨rfl, hk3⟩
          have b3 := b2.trans (hk3.mono b2.size)
          have a3 := a2.over hk3
          have M3 := M2.below hk3
          clear b2 s2 a2 hk3 M2
          go_wp2_with fail
          refine (runsM_any m l w3 M3 (by have := HN.out; omega)).mono ?_
          rintro e w4 ⟨vg, rfl, o4, hk4⟩
          have b4' := b3.trans (hk4.mono b3.size)
          have a4 := a3.over hk4
          have M4 := M3.below hk4
          obtain ⟨Ag, cg, rfl, hcg1, hcg2, hRg⟩ := (o4.sl encR_length).run
          obtain ⟨_, _, he4, _, _, hR4⟩ := a4.run
          injection he4 with he4 he5 he6
          subst he4
          have HR4 := Lib.hid hR4
          have HG4 := Lib.hid hRg
          have HM4 := Lib.hid M4
          rw [HN.out] at hcg1 ⊢
          have hnn : ((n : Int) != (n : Int)) = false := by simp
          clear he5 he6 o4 hk4 b3 a3 M3 a4 M4 hR4 hRg
          rcases nil_or_snoc l with hnil | ⟨lo, r, hsn⟩
          · have hn0 : n = 0 := by rw [← HN.out, hnil]; rfl
            have hQ := Lib.hid (fun k => len_qr (E := 0) HM4.out (by rw [hnil]; rfl) k)
            subst hn0
            clear hnil hcont
            go_wp2
            go_quiet ((go_at_call 14; exact hQ.out _))
            go_wp2
            go_loopw [8] (fun iv wr => ∃ (k nq : Nat), k ≤ 0 ∧ iv = .int .i64 k ∧ wr = w4.drewN nq) (fun iv _ => 0 - (intOf iv).toNat)
            case atStart => exact ⟨0, nq, Nat.zero_le _, rfl, rfl⟩
            case round =>
              obtain ⟨k, nq0, hk, rfl, rfl⟩ := hrel
              have hkz : k = 0 := by omega
              subst hkz
              clear hk
              go_wp2
              go_ret
              exact ⟨rfl, below_drewN b4' _⟩
          · have hlast : endOf 0 l = r.2.1 := by rw [hsn]; exact endOf_snoc lo r 0
            obtain ⟨j, hj⟩ : ∃ j, n = j + 1 := ⟨lo.length, by rw [← HN.out, hsn]; simp⟩
            obtain ⟨b9, o9, he9, hu1, hu2, g9, hu3⟩ := HR4.out j (by rw [HN.out]; omega)
            have hlr : l[j]'(by rw [HN.out]; omega) = r := by
              have hjl : j = lo.length := by have := HN.out; rw [hsn] at this; simp at this; omega
              subst hjl
              simp only [hsn]
              simp
            rw [hlr] at g9
            obtain ⟨E9, hE9⟩ : ∃ E, E = r.2.1 := ⟨_, rfl⟩
            rw [← hE9] at g9 hlast
            have hQ := Lib.hid (fun k => len_qr (E := E9) HM4.out hlast k)
            have HR4' := HR4
            subst he9
            have hee : (E9 != E9) = false := by simp
            have hd : decide ((0 : Int) < (n : Int)) = true := by simp only [decide_eq_true_eq]; omega
            have hdN : decide (0 < n) = true := by simp only [decide_eq_true_eq]; omega
            have hdzN : (n == 0) = false := by rw [beq_eq_false_iff_ne]; omega
            have hdz : ((n : Int) == 0) = false := by rw [beq_eq_false_iff_ne]; omega
            have hw1 : IntKind.i64.wrap ((n : Int) - 1) = (j : Int) := by rw [IntWalk.i64_in _ (by omega)]; omega
            have hjn : (j : Int) < (n : Int) := by omega
            have hj0 : (0 : Int) ≤ (j : Int) := by omega
            clear hu1 hu2 hu3
            clear hsn hlast hlr hE9 hcont hj
            go_wp2
            go_quiet ((go_at_call 14; exact hQ.out _))
            go_wp2
            go_loopw [8] (fun iv wr => ∃ (k nq : Nat), k ≤ n ∧ iv = .int .i64 k ∧ wr = w4.drewN nq) (fun iv _ => n - (intOf iv).toNat)
            case atStart => exact ⟨0, nq, Nat.zero_le _, rfl, rfl⟩
            case round =>
              obtain ⟨k, nq0, hk, rfl, rfl⟩ := hrel
              by_cases hlt : k < n
              · obtain ⟨b, oo, he1, _, g1, g2, g3⟩ := HR4.out k (by rw [HN.out]; exact hlt)
                obtain ⟨b', oo', he2, _, g1', g2', g3'⟩ := HG4.out k (by rw [HN.out]; exact hlt)
                subst he2
                injection he1 with he1
                injection he1 with he1 he3 he4
                subst he1 he3
                clear he4
                obtain ⟨x, hx⟩ : ∃ x, x = l[k]'(by rw [HN.out]; exact hlt) := ⟨_, rfl⟩
                rw [← hx] at g1 g2 g3 g1' g2' g3'
                obtain ⟨x0, x1, x2⟩ := x
                clear hx
                go_wp2
                go_quiet (fail)
                go_wp2
                go_roundw
                case rel => exact ⟨k + 1, _, by omega, by go_num, by first | rfl | exact World.drewN_drewN _ _ _⟩
                case measure => simp [intOf]; omega
              · go_wp2
                go_ret
                exact ⟨rfl, below_drewN b4' _⟩
        · have b1 := HBR.out.trans (hb1.mono HBR.out.size)
          have s1 := HSW.out.over hb1
          have hne : (E != 0) = true := by simpa using hE0
          have hee : (E != E) = false := by simp
          clear hb1 hE0
          go_wp2_with fail
          refine (known_any w1).mono ?_
          rintro e w2 ⟨rfl, hk2⟩
          have b2 := b1.trans (hk2.mono b1.size)
          have s2 := s1.over hk2
          clear b1 s1 hk2
          go_wp2_with fail
          refine (HEE.out w2 s2).mono ?_
          rintro e w3 ⟨rfl, hk3⟩
          have b3 := b2.trans (hk3.mono b2.size)
          clear b2 s2 hk3
          go_wp2
          go_ret
          exact ⟨rfl, b3⟩
end Go.Proofs.Ytpcjklfdgjeamaa
