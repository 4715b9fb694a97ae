/- Walk: join. -/
import Derived.Test.YtpcjklfdgjeamaaW4
namespace Go.Proofs.Ytpcjklfdgjeamaa
open Go.RowKit

/-- The cells of a block that was just made, at its number. -/
theorem cells_at (w : World) (cs : List Value) (E : TypeId) {G : Nat} (h : G = w.heap.size) : ∀ j u, cs[j]? = some u → (w.alloc (.cells cs.toArray E)).cell? ⟨G, j, none⟩ = some u := by
  subst h; exact cells_new w cs E

/-- The last run of an own slice: its cells. -/
theorem own_last {E : TypeId} {W : World} {B : Nat} {v : Value} {o : List Rn} {s : Rn} (h : Own encR 3 E W B v (o ++ [s])) :
    ∃ g cap, v = .slice (some ⟨g, 0, none⟩) (o.length + 1) cap ∧ o.length < cap ∧ cap ≤ 9223372036854775807 ∧ B ≤ g ∧ g < W.heap.size ∧
      W.cell? ⟨g, o.length * 3 + 1, none⟩ = some (.int .i64 s.2.1) ∧ W.cell? ⟨g, o.length * 3 + 2, none⟩ = some (.int .i64 s.2.2) ∧ W.frozen? ⟨g, o.length * 3 + 1, none⟩ = false := by
  have hl : (o ++ [s]).length = o.length + 1 := by simp
  obtain ⟨g, cap, rfl, hkc, hcm⟩ := h.some (by omega)
  obtain ⟨cur, hblk, hg1, hg2⟩ := h.blk
  obtain ⟨_, _, he1, _, _, hcl⟩ := h.sl encR_length
  injection he1 with he1 _ he2
  subst he1 he2
  obtain ⟨g', o', he1, _, hcl⟩ := hcl (by omega)
  injection he1 with he1
  injection he1 with he1 he2
  subst he1 he2
  have c1 := hcl o.length s (by simp) 1 _ rfl
  have c2 := hcl o.length s (by simp) 2 _ rfl
  simp only [Nat.zero_add] at c1 c2
  exact ⟨g, cap, by rw [hl], by omega, by unfold maxLen at hcm; omega, hg1, hg2, c1, c2, blk_free hblk _⟩
theorem own_last_set {E : TypeId} {W : World} {B g n cap : Nat} {o : List Rn} {s : Rn} (h : Own encR 3 E W B (.slice (some ⟨g, 0, none⟩) n cap) (o ++ [s])) (z : Int) :
    Own encR 3 E (W.setCell ⟨g, o.length * 3 + 1, none⟩ (.int .i64 z)) B (.slice (some ⟨g, 0, none⟩) n cap) (o ++ [(s.1, z, s.2.2)]) := by
  have := h.set encR_length o.length 1 (.int .i64 z) (s.1, z, s.2.2) (by simp) (by omega) (by simp [encR])
  simpa using this

theorem joinF_drop (L : List Rn) (k : Nat) (h : k < L.length) (out : List Rn) (q : Int) :
    joinF (L.drop k) out q = joinF (L.drop (k + 1)) (addR out (L[k].2.1 - L[k].1) L[k].2.2 q) (q + (L[k].2.1 - L[k].1)) := by
  rw [List.drop_eq_getElem_cons h]; rfl
theorem addR_length (out : List Rn) (n v q : Int) : (addR out n v q).length ≤ out.length + 1 := by
  rcases nil_or_snoc out with rfl | ⟨o, r, rfl⟩
  · simp [addR_nil]
  · rw [addR_snoc]; split <;> simp

set_option maxRecDepth 100000 in
set_option maxHeartbeats 2000000 in
theorem join_any (G n : Nat) (ps : List (Value × List Rn)) (hn : n = ps.length) (w : World) (hG : G < w.heap.size) (hsum : lensOf ps ≤ 1048576) (hpl : n ≤ 1048576)
    (hcells : ∀ i (h : i < ps.length), w.cell? ⟨G, i, none⟩ = some ps[i].1) (hsl : ∀ p ∈ ps, RunsV w w.heap.size p.1 p.2) (hb : ∀ r ∈ flatOf ps, 0 ≤ r.1 ∧ r.1 < r.2.1 ∧ r.2.1 ≤ 2097152) :
    Calls Try.prog 51 #[.slice (some ⟨G, 0, none⟩) n n] w fun e w' => ∃ v, e = .returned v ∧ OwnR w' w.heap.size v (joinF (flatOf ps) [] 0) ∧ Below w.heap.size w w' := by
  obtain ⟨i0, hi, hz0, hz1, hz2⟩ := info_parts info31
  have HC := Lib.hid (concat_any G n ps hn w hG hsum hpl hcells hsl)
  have hfl : (flatOf ps).length ≤ 1048576 := by rw [flatOf_length]; exact hsum
  obtain ⟨L, hL⟩ : ∃ L, L = flatOf ps := ⟨_, rfl⟩
  rw [← hL] at HC hfl hb ⊢
  have HB := Lib.hid hb
  clear hcells hsl hn hL hb hsum hG
  go_enter Try.func51, Try.ntmps51
  go_wp2_with fail
  refine HC.out.mono ?_
  rintro e w1 ⟨v1, rfl, hown1, hb1⟩
  obtain ⟨A, c, rfl, hlc, hc, hR⟩ := (hown1.sl encR_length).run
  have HR := Lib.hid hR
  have HB1 := Lib.hid hb1
  have hz1' := hb1.size
  clear hown1 hR hb1 HC
  go_wp2_with fail
  go_loopw [3, 4, 12] (fun ov qv kv wr => ∃ (k : Nat) (o : List Rn) (q : Int), k ≤ L.length ∧ kv = .int .i64 k ∧ qv = .int .i64 q ∧ OwnR wr w1.heap.size ov o ∧ Hid (joinF (L.drop k) o q = joinF L [] 0) ∧ Hid (Cont 0 o) ∧ Hid (endOf 0 o = q) ∧ 0 ≤ q ∧ q ≤ k * 2097152 ∧ o.length ≤ k ∧ Below w1.heap.size w1 wr) (fun _ _ kv _ => L.length - (intOf kv).toNat)
  case atStart => exact ⟨0, [], 0, Nat.zero_le _, rfl, rfl, Own.nil _ _, Lib.hid rfl, Lib.hid trivial, Lib.hid rfl, by omega, by omega, by simp, Below.refl _ _⟩
  case round =>
    obtain ⟨k, o, q, hk, rfl, rfl, hown, HJ, HCo, HE, hq0, hqk, hol, hbr⟩ := hrel
    have hbz := hbr.size
    by_cases hlt : k < L.length
    · obtain ⟨b, oo, rfl, hbB, g1, g2, g3⟩ := (HR.out.below hbr) k hlt
      have hbk := HB.out L[k] (by simp)
      have HS := Lib.hid (joinF_drop L k hlt o q)
      obtain ⟨x, hx⟩ : ∃ x, x = L[k] := ⟨_, rfl⟩
      rw [← hx] at g1 g2 g3 hbk HS
      clear hx
      obtain ⟨x0, x1, x2⟩ := x
      simp only at g1 g2 g3 hbk HS
      obtain ⟨hx0, hx1, hx2⟩ := hbk
      have HA := Lib.hid (addR_cont (v := x2) HCo.out HE.out (show 0 < x1 - x0 by omega))
      have HJ2 : Hid (joinF (L.drop (k + 1)) (addR o (x1 - x0) x2 q) (q + (x1 - x0)) = joinF L [] 0) := Lib.hid (by rw [← HS.out]; exact HJ.out)
      have hal := addR_length o (x1 - x0) x2 q
      have hw0 : IntKind.i64.wrap (x1 - x0) = x1 - x0 := IntWalk.i64_in _ (by omega)
      rcases nil_or_snoc o with rfl | ⟨o, s, rfl⟩
      · have HN := Lib.hid (addR_nil (x1 - x0) x2 q)
        rw [HN.out] at HA HJ2 hal
        obtain ⟨Ao, co, rfl, hco1, hco2⟩ := hown.shape
        have hd : decide ((0 : Int) < 0) = false := by simp
        clear HS HJ
        go_wp2
        go_quiet (fail)
        go_wp2_with (at_builtin; refine wpList_push _ rfl _ _ 28 rfl w1.heap.size 31 i0 _ 3 24 Try.underlying28 hi hz0 hz1 hz2 rfl (by decide) encR_length encR_one _ _ rfl (((hown.alloc _).drewN nq).alloc _) _ _ (q, q + (x1 - x0), x2) rfl (cells_at _ _ _ (by simp)) ?c1 ?c2 ?c3 ?_)
        case c1 => simp
        case c2 => simp
        case c3 => simp; omega
        intro v' w5 hown5 hg5
        have hb5 : Below w1.heap.size w1 w5 := (((below_drewN (hbr.alloc hbz _) nq)).alloc (by simp; omega) _).grown hg5 (by simp; omega) (fun p hp => (hown.lt p hp).1)
        clear hown
        go_wp2
        go_roundw
        case rel => exact ⟨k + 1, _, _, by omega, by go_num, rfl, hown5, HJ2, Lib.hid HA.out.1, Lib.hid HA.out.2.1, by omega, by omega, by simp, hb5⟩
        case measure => simp [intOf]; omega
      · have HSN := Lib.hid (addR_snoc o s (x1 - x0) x2 q)
        have HEo : Hid (s.2.1 = q) := Lib.hid (by rw [← HE.out, endOf_snoc])
        have hcov := (((hown.alloc (.cells #[.int .i64 x0, .int .i64 x1, .int .i64 x2] 31))))
        obtain ⟨s0, s1, s2⟩ := s
        simp only at HSN HEo
        obtain ⟨g, cap, rfl, hoc, hcap, hg, hgs, d1, d2, df⟩ := own_last hcov
        simp only at d1 d2
        obtain ⟨j, hj⟩ : ∃ j, j = o.length := ⟨_, rfl⟩
        have hjk : j < k := by simp at hol; omega
        rw [← hj] at d1 d2 df hoc hcov ⊢
        have HJ' := Lib.hid hj
        have hwj : IntKind.i64.wrap (((j + 1 : Nat) : Int) - 1) = (j : Int) := by rw [IntWalk.i64_in _ (by omega)]; omega
        have hwj2 : IntKind.i64.wrap ((j : Int) + 1 - 1) = (j : Int) := by rw [IntWalk.i64_in _ (by omega)]; omega
        clear hj HS HJ
        have hd : decide ((0 : Int) < (j : Int) + 1) = true := by simp only [decide_eq_true_eq]; omega
        by_cases he : s2 = x2
        · subst he
          rw [HSN.out, if_pos rfl] at HA HJ2 hal
          obtain ⟨z, hz⟩ : ∃ z, z = s1 + (x1 - x0) := ⟨_, rfl⟩
          have hw3 : IntKind.i64.wrap (s1 + (x1 - x0)) = s1 + (x1 - x0) := IntWalk.i64_in _ (by have := HEo.out; omega)
          have HOS : Hid (∀ nq, OwnR (((wr.alloc (.cells #[.int .i64 x0, .int .i64 x1, .int .i64 s2] 31)).drewN nq).setCell ⟨g, j * 3 + 1, none⟩ (.int .i64 (s1 + (x1 - x0)))) w1.heap.size (.slice (some ⟨g, 0, none⟩) (j + 1) cap) (o ++ [(s0, s1 + (x1 - x0), s2)])) :=
            Lib.hid fun nq => by rw [HJ'.out]; rw [HJ'.out] at hcov; exact own_last_set (hcov.drewN nq) _
          clear hcov hown HSN
          go_wp2
          go_quiet (fail)
          have HO := HOS.out nq
          have hbn : Below w1.heap.size w1 (((wr.alloc (.cells #[.int .i64 x0, .int .i64 x1, .int .i64 s2] 31)).drewN nq).setCell ⟨g, j * 3 + 1, none⟩ (.int .i64 (s1 + (x1 - x0)))) := (below_drewN (hbr.alloc hbz _) nq).setCell (by exact hg) _
          clear HOS
          go_wp2
          go_roundw
          case rel => exact ⟨k + 1, _, _, by omega, by go_num, rfl, HO, HJ2, Lib.hid HA.out.1, Lib.hid HA.out.2.1, by omega, by omega, by simp at hol ⊢; omega, hbn⟩
          case measure => simp [intOf]; omega
        · rw [HSN.out, if_neg he] at HA HJ2 hal
          simp only [List.append_assoc, List.cons_append, List.nil_append] at HA HJ2 hal
          have hd2 : (s2 == x2) = false := by simpa using he
          clear HSN he
          go_wp2
          go_quiet (fail)
          go_wp2_with (at_builtin; refine wpList_push _ rfl _ _ 28 rfl w1.heap.size 31 i0 _ 3 24 Try.underlying28 hi hz0 hz1 hz2 rfl (by decide) encR_length encR_one _ (o ++ [(s0, s1, s2)]) rfl ((hcov.drewN nq).alloc _) _ _ (q, q + (x1 - x0), x2) rfl (cells_at _ _ _ (by simp)) ?c1 ?c2 ?c3 ?_)
          case c1 => simp at hol ⊢; omega
          case c2 => simp at hol ⊢; omega
          case c3 => simp; omega
          intro v' w5 hown5 hg5
          have hb5 : Below w1.heap.size w1 w5 := (((below_drewN (hbr.alloc hbz _) nq)).alloc (by simp; omega) _).grown hg5 (by simp; omega) (fun p hp => (hcov.lt p hp).1)
          clear hown hcov
          go_wp2
          go_roundw
          case rel => exact ⟨k + 1, _, _, by omega, by go_num, rfl, hown5, HJ2, Lib.hid HA.out.1, Lib.hid HA.out.2.1, by omega, by omega, by simp at hol ⊢; omega, hb5⟩
          case measure => simp [intOf]; omega
    · have HE2 : Hid (o = joinF L [] 0) := Lib.hid (by rw [← HJ.out, List.drop_of_length_le (by omega), joinF])
      go_wp2
      go_ret
      refine ⟨_, rfl, ?_, HB1.out.trans (hbr.mono hz1')⟩
      rw [← HE2.out]
      exact hown.lower hz1'
end Go.Proofs.Ytpcjklfdgjeamaa
