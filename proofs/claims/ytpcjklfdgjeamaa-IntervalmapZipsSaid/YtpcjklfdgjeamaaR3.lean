/- Walks of the reference: Runs; and what compares a map with values. -/
import Derived.Test.YtpcjklfdgjeamaaR2
namespace Go.Proofs.Ytpcjklfdgjeamaa
open Go.RowKit

abbrev OwnF := Own encR 3 41
theorem info41 : (Try.prog.info? 41).map (fun i => (i.zero, i.size, i.bytes)) = some (some (.agg #[.int .i64 0, .int .i64 0, .int .i64 0]), 3, 24) := by kernel_rfl

/-- What a round of a loop reads of element k. -/
def IntAt (w : World) (B : Nat) (A : Option Addr) (l : List Int) : Prop :=
  ∀ k (h : k < l.length), ∃ b o, A = some ⟨b, o, none⟩ ∧ b < B ∧ w.cell? ⟨b, o + k, none⟩ = some (.int .i64 l[k])
theorem Sl.ints {w : World} {B : Nat} {v : Value} {l : List Int} (h : IntsV w B v l) : ∃ A c, v = .slice A l.length c ∧ l.length ≤ c ∧ c ≤ 9223372036854775807 ∧ IntAt w B A l := by
  obtain ⟨A, c, rfl, h1, h2, h3⟩ := h
  refine ⟨A, c, rfl, h1, h2, fun k hk => ?_⟩
  obtain ⟨b, o, rfl, hb, hc⟩ := h3 (by omega)
  refine ⟨b, o, rfl, hb, ?_⟩
  have := hc k l[k] (by simp) 0 _ rfl
  simpa using this
theorem IntAt.below {w w' : World} {B : Nat} {A : Option Addr} {l : List Int} (h : IntAt w B A l) (hb : Below B w w') : IntAt w' B A l := by
  intro k hk
  obtain ⟨b, o, rfl, hbB, h1⟩ := h k hk
  exact ⟨b, o, rfl, hbB, (hb.cell (p := ⟨b, o + k, none⟩) hbB).trans h1⟩

theorem runsF_drop (l : List Int) (k : Nat) (h : k < l.length) (out : List Rn) (q : Int) : runsF (l.drop k) out q = runsF (l.drop (k + 1)) (addR out 1 l[k] q) (q + 1) := by
  rw [List.drop_eq_getElem_cons h]; rfl

set_option maxRecDepth 100000 in
set_option maxHeartbeats 2000000 in
theorem rruns_any (lv : Value) (l : List Int) (w : World) (h : IntsV w w.heap.size lv l) (hl : l.length ≤ 1048576) :
    Calls Try.prog 43 #[lv] w fun e w' => ∃ v, e = .returned v ∧ OwnF w' w.heap.size v (runsOf l) ∧ Below w.heap.size w w' := by
  obtain ⟨i0, hi, hz0, hz1, hz2⟩ := info_parts info41
  obtain ⟨A, c, rfl, hlc, hc, hR⟩ := h.ints
  have HR := Lib.hid hR
  clear h hR
  go_enter Try.func43, Try.ntmps43
  go_wp2
  go_loopw [3, 4] (fun ov kv wr => ∃ (k : Nat) (o : List Rn), k ≤ l.length ∧ kv = .int .i64 k ∧ OwnF wr w.heap.size ov o ∧ Hid (runsF (l.drop k) o k = runsOf l) ∧ Hid (Cont 0 o) ∧ Hid (endOf 0 o = k) ∧ o.length ≤ k ∧ Below w.heap.size w wr) (fun _ kv _ => l.length - (intOf kv).toNat)
  case atStart => exact ⟨0, [], Nat.zero_le _, rfl, Own.nil _ _, Lib.hid rfl, Lib.hid trivial, Lib.hid rfl, by simp, Below.refl _ _⟩
  case round =>
    obtain ⟨k, o, hk, rfl, hown, HJ, HCo, HE, hol, hbr⟩ := hrel
    have hbz := hbr.size
    by_cases hlt : k < l.length
    · obtain ⟨b, oo, rfl, hbB, g1⟩ := (HR.out.below hbr) k hlt
      have HS := Lib.hid (runsF_drop l k hlt o k)
      obtain ⟨x, hx⟩ : ∃ x, x = l[k] := ⟨_, rfl⟩
      rw [← hx] at g1 HS
      clear hx
      have hk1 : ((k : Int) + 1) = ((k + 1 : Nat) : Int) := by omega
      have HA := Lib.hid (addR_cont (v := x) HCo.out HE.out (show (0 : Int) < 1 by omega))
      have HJ2 : Hid (runsF (l.drop (k + 1)) (addR o 1 x k) ((k + 1 : Nat) : Int) = runsOf l) := Lib.hid (by rw [← hk1, ← HS.out]; exact HJ.out)
      rw [hk1] at HA
      clear hk1
      have hal := addR_length o 1 x k
      rcases nil_or_snoc o with rfl | ⟨o, s, rfl⟩
      · have HN := Lib.hid (addR_nil 1 x k)
        rw [HN.out] at HA HJ2 hal
        obtain ⟨Ao, co, rfl, hco1, hco2⟩ := hown.shape
        have hd : decide ((0 : Int) < 0) = false := by simp
        clear HS HJ
        go_wp2
        go_quiet (fail)
        go_wp2_with (at_builtin; refine wpList_push _ rfl _ _ 40 rfl w.heap.size 41 i0 _ 3 24 Try.underlying40 hi hz0 hz1 hz2 rfl (by decide) encR_length encR_one _ [] rfl ((hown.drewN nq).alloc _) _ _ ((k : Int), (k : Int) + 1, x) rfl (cells_at _ _ _ (by simp)) ?c1 ?c2 ?c3 ?_)
        case c1 => simp
        case c2 => simp
        case c3 => simp; omega
        intro v' w5 hown5 hg5
        have hb5 : Below w.heap.size w w5 := ((below_drewN hbr nq).alloc (by simp; omega) _).grown hg5 (by simp; omega) (fun p hp => (hown.lt p hp).1)
        clear hown
        go_wp2
        go_roundw
        case rel => exact ⟨k + 1, _, by omega, by go_num, hown5, HJ2, Lib.hid HA.out.1, Lib.hid HA.out.2.1, by simp, hb5⟩
        case measure => simp [intOf]; omega
      · have HSN := Lib.hid (addR_snoc o s 1 x k)
        have HEo : Hid (s.2.1 = k) := Lib.hid (by rw [← HE.out, endOf_snoc])
        obtain ⟨s0, s1, s2⟩ := s
        simp only at HSN HEo
        obtain ⟨g, cap, rfl, hoc, hcap, hg, hgs, d1, d2, df⟩ := own_last hown
        simp only at d1 d2
        obtain ⟨j, hj⟩ : ∃ j, j = o.length := ⟨_, rfl⟩
        have hjk : j < k := by simp at hol; omega
        rw [← hj] at d1 d2 df hoc
        have HJ' := Lib.hid hj
        have hj' := hj
        try simp only [List.length_append, List.length_singleton] at hown
        rw [← hj'] at hown ⊢
        have hwj : IntKind.i64.wrap (((j + 1 : Nat) : Int) - 1) = (j : Int) := by rw [IntWalk.i64_in _ (by omega)]; omega
        have hwj2 : IntKind.i64.wrap ((j : Int) + 1 - 1) = (j : Int) := by rw [IntWalk.i64_in _ (by omega)]; omega
        clear hj hj' HS HJ
        have hd : decide ((0 : Int) < (j : Int) + 1) = true := by simp only [decide_eq_true_eq]; omega
        by_cases he : s2 = x
        · subst he
          rw [HSN.out, if_pos rfl] at HA HJ2 hal
          have HOS : Hid (∀ nq, OwnF ((wr.drewN nq).setCell ⟨g, j * 3 + 1, none⟩ (.int .i64 ((k : Int) + 1))) w.heap.size (.slice (some ⟨g, 0, none⟩) (j + 1) cap) (o ++ [(s0, s1 + 1, s2)])) :=
            Lib.hid fun nq => by rw [HEo.out, HJ'.out]; rw [HJ'.out] at hown; exact own_last_set (hown.drewN nq) _
          clear hown HSN
          go_wp2
          go_quiet (fail)
          have HO := HOS.out nq
          have hbn : Below w.heap.size w ((wr.drewN nq).setCell ⟨g, j * 3 + 1, none⟩ (.int .i64 ((k : Int) + 1))) := (below_drewN hbr nq).setCell (by exact hg) _
          clear HOS
          go_wp2
          go_roundw
          case rel => exact ⟨k + 1, _, by omega, by go_num, HO, HJ2, Lib.hid HA.out.1, Lib.hid HA.out.2.1, by simp at hol ⊢; omega, hbn⟩
          case measure => simp [intOf]; omega
        · rw [HSN.out, if_neg he] at HA HJ2 hal
          simp only [List.append_assoc, List.cons_append, List.nil_append] at HA HJ2 hal
          have hd2 : (s2 == x) = false := by simpa using he
          clear HSN he
          go_wp2
          go_quiet (fail)
          go_wp2_with (at_builtin; refine wpList_push _ rfl _ _ 40 rfl w.heap.size 41 i0 _ 3 24 Try.underlying40 hi hz0 hz1 hz2 rfl (by decide) encR_length encR_one _ (o ++ [(s0, s1, s2)]) rfl ((hown.drewN nq).alloc _) _ _ ((k : Int), (k : Int) + 1, x) rfl (cells_at _ _ _ (by simp)) ?c1 ?c2 ?c3 ?_)
          case c1 => simp at hol ⊢; omega
          case c2 => simp at hol ⊢; omega
          case c3 => simp; omega
          intro v' w5 hown5 hg5
          have hb5 : Below w.heap.size w w5 := ((below_drewN hbr nq).alloc (by simp; omega) _).grown hg5 (by simp; omega) (fun p hp => (hown.lt p hp).1)
          clear hown
          go_wp2
          go_roundw
          case rel => exact ⟨k + 1, _, by omega, by go_num, hown5, HJ2, Lib.hid HA.out.1, Lib.hid HA.out.2.1, by simp at hol ⊢; omega, hb5⟩
          case measure => simp [intOf]; omega
    · have HE2 : Hid (o = runsOf l) := Lib.hid (by rw [← HJ.out, List.drop_of_length_le (by omega), runsF])
      go_wp2
      go_ret
      exact ⟨_, rfl, by rw [← HE2.out]; exact hown, hbr⟩
end Go.Proofs.Ytpcjklfdgjeamaa
