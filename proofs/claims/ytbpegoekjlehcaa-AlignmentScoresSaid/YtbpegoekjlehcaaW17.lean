/- Walk: Score. -/
import Derived.Sort.QuietIn
import Derived.Deep.RegionHeld3
import Derived.Deep.RegionWith
import Derived.IntWalk
import Derived.Test.YtbpegoekjlehcaaW16
import Derived.Test.YtbpegoekjlehcaaW9
import Derived.Test.YtbpegoekjlehcaaW4
namespace Go.Proofs.Ytbpegoekjlehcaa
open Go.RowKit Go.Shelf
attribute [local go_sem] Oper.semAt_some

def lscoreL (a b p : List Tok) (g : Int) : Int × Int :=
  if bothL a b ≠ 0 then (0, bothL a b) else if gapL g ≠ 0 then (0, gapL g) else if pairsL a b p ≠ 0 then (0, pairsL a b p) else (scoreL a b g p, 0)

theorem inR_of_pairsF (a b : List Tok) : ∀ (p : List Tok) (x y : Int), pairsF a b p x y = 0 → InR a b p
  | [], _, _, _ => fun q hq => by simp at hq
  | q :: r, x, y, h => by
    rw [pairsF] at h
    by_cases c1 : q.1 < 0 ∨ a.length ≤ q.1 ∨ q.2 < 0 ∨ b.length ≤ q.2
    · rw [if_pos c1] at h; omega
    · rw [if_neg c1] at h
      by_cases c2 : q.1 ≤ x ∨ q.2 ≤ y
      · rw [if_pos c2] at h; omega
      · rw [if_neg c2] at h
        by_cases c3 : ky a q.1 ≠ ky b q.2
        · rw [if_pos c3] at h; omega
        · rw [if_neg c3] at h
          intro t ht
          rcases List.mem_cons.1 ht with rfl | ht
          · omega
          · exact inR_of_pairsF a b r q.1 q.2 h t ht
theorem inR_of_pairs {a b p : List Tok} (h : pairsL a b p = 0) : InR a b p := inR_of_pairsF a b p _ _ h
theorem frozen_over {w w' : World} {p : Addr} {v : Value} (hc : w.cell? p = some v) (h : w.frozen? p = false) (hb : Below w.heap.size w w') : w'.frozen? p = false := (hb.frozen (World.block_lt_of_cell? _ _ hc)).trans h

theorem wsumL_append (a b : List Tok) : ∀ (p q : List Tok), wsumL a b (p ++ q) = wsumL a b p + wsumL a b q
  | [], q => by simp [wsumL]
  | x :: p, q => by rw [List.cons_append, wsumL, wsumL, wsumL_append a b p q]; omega
theorem wsumL_bound {a b : List Tok} (ha : WOk a) (hb : WOk b) : ∀ (p : List Tok), 0 ≤ wsumL a b p ∧ wsumL a b p ≤ 1000 * p.length
  | [] => by simp [wsumL]
  | x :: p => by
    have h1 := wt_bound a ha x.1
    have h2 := wt_bound b hb x.2
    have h3 := wsumL_bound ha hb p
    rw [wsumL, List.length_cons]
    omega
theorem wsumL_take {a b p : List Tok} (ha : WOk a) (hb : WOk b) (k : Nat) (hk : k < p.length) :
    wsumL a b (p.take (k + 1)) = wsumL a b (p.take k) + min (wt a p[k].1) (wt b p[k].2) ∧ 0 ≤ wsumL a b (p.take k) ∧ wsumL a b (p.take k) ≤ 1000 * k := by
  have h1 := wsumL_bound ha hb (p.take k)
  rw [List.length_take] at h1
  refine ⟨?_, h1.1, by omega⟩
  rw [List.take_succ_eq_append_getElem hk, wsumL_append]
  simp [wsumL]

theorem lscore_round {w w1 : World} {n D : Nat} {u v : Value} (hN : Boxed w1 n 3 u) (hK : w1.heap[D]? = some (.deferred (some []))) (hb : Below w.heap.size w w1) (hne : n < D) (hn : w.heap.size ≤ n) :
    Boxed (w1.setCell ⟨n, 0, none⟩ v) n 3 v ∧ Below w.heap.size w (w1.setCell ⟨n, 0, none⟩ v) ∧ (w1.setCell ⟨n, 0, none⟩ v).heap[D]? = some (.deferred (some [])) :=
  ⟨hN.set v, hb.setCell (p := ⟨n, 0, none⟩) hn _, (Below.heap_setCell _ _ _ D (by show D ≠ n; omega)).trans hK⟩

set_option maxRecDepth 100000 in
set_option maxHeartbeats 16000000 in
theorem lscore_main (A A' A'' : Option Addr) (c c' c'' : Nat) (a b p : List Tok) (g : Int) (w : World) (ha : Toks w w.heap.size (.slice A a.length c) a) (hb : Toks w w.heap.size (.slice A' b.length c') b) (hp : Toks w w.heap.size (.slice A'' p.length c'') p)
    (h0 : bothL a b = 0) (h1 : gapL g = 0) (h2 : pairsL a b p = 0) :
    Calls Try.prog 31 #[.slice A a.length c, .slice A' b.length c', .slice A'' p.length c'', .int .i64 g] w fun e w' => e = .returned (.tuple #[.int .i64 (scoreL a b g p), .int .i64 0]) ∧ Below w.heap.size w w' := by
  have H1 := Lib.hid (both_any _ _ a b w ha hb)
  have hb0 : (bothL a b != 0) = false := by simp [h0]
  have hg0 : (gapL g != 0) = false := by simp [h1]
  have hLP : lpairsL a b p = 0 := by unfold lpairsL; rw [if_neg (by simp [h0])]; exact h2
  have hp0 : (lpairsL a b p != 0) = false := by simp [hLP]
  obtain ⟨f1, f2, f3, f4⟩ := bothL_zero h0
  obtain ⟨g1, g2⟩ := gapL_zero h1
  have HI := Lib.hid (inc_of_pairs a b p (-1) (-1) h2 (by omega) (by omega))
  have HF := Lib.hid (And.intro f1 f2)
  have HIR : Hid (InR a b p) := Lib.hid (inR_of_pairs h2)
  have hpl : p.length ≤ 2048 := by have := HI.out.len; omega
  clear f1 f2 h0 h1 h2 hLP
  refine (callsIn_wide (n := 9)).1 ?_
  refine callsIn_of_wp_marks Try.func31 rfl trivial ?_ rfl
  simp only [Try.ntmps31, List.size_toArray, List.length_cons, List.length_nil, Nat.reduceAdd, Nat.reduceSub, Array.replicate_succ, Array.replicate_zero, List.push_toArray, List.append_toArray, List.nil_append, List.cons_append]
  refine wpIn_wide.2 ?_
  go_wp2_with fail
  obtain ⟨wa, hwa⟩ : ∃ wa, wa = w.alloc (.cells #[.int .i64 g] 3) := ⟨_, rfl⟩
  have bG : Boxed wa w.heap.size 3 (.int .i64 g) := by rw [hwa]; exact Boxed.new _ _ _
  have hba : Below w.heap.size w wa := by rw [hwa]; exact (Below.refl _ w).alloc (Nat.le_refl _) _
  have hza : wa.heap.size = w.heap.size + 1 := by rw [hwa]; simp
  rw [← hwa]
  clear hwa H1
  refine (both_any _ _ a b wa (ha.over hba) (hb.over hba)).mono ?_
  rintro e w1 ⟨rfl, hk1⟩
  have bG1 : Boxed w1 w.heap.size 3 (.int .i64 g) := (hk1.block _ bG.lt).trans bG
  have hb1 := hba.trans (hk1.mono hba.size)
  have hz1 := hk1.size
  clear hk1 bG hba
  have cG := bG1.cell
  go_wp2_with fail
  refine (gap_any g w1).mono ?_
  rintro e w2 ⟨rfl, rfl⟩
  go_wp2_with fail
  refine (lpairs_any _ _ _ a b p w1 (ha.over hb1) (hb.over hb1) (hp.over hb1)).mono ?_
  rintro e w2 ⟨rfl, hk2⟩
  have bG2 : Boxed w2 w.heap.size 3 (.int .i64 g) := (hk2.block _ bG1.lt).trans bG1
  have hb2 := hb1.trans (hk2.mono hb1.size)
  have hz2 := hk2.size
  clear hk2 bG1 hb1 cG
  go_wp2_with fail
  refine (callsIn_wide.1 (regions_in Fence.wide 1 trivial rfl _ _ _ _ _ _ _ _ _ _)).mono ?_
  rintro e w3 ⟨rfl, rfl⟩
  go_wp2_with fail
  have bN : Boxed (w2.alloc (.cells #[.int .i64 0] 3)) w2.heap.size 3 (.int .i64 0) := Boxed.new _ _ _
  obtain ⟨W0, hW0⟩ : ∃ W0, W0 = (((w2.alloc (.cells #[.int .i64 0] 3)).alloc (.cells #[.slice A a.length c] 22)).alloc (.cells #[.slice A' b.length c'] 22)).alloc (.cells #[.slice A'' p.length c''] 26) := ⟨_, rfl⟩
  have bN0 : Boxed W0 w2.heap.size 3 (.int .i64 0) := by rw [hW0]; exact ((bN.alloc _).alloc _).alloc _
  have bG0 : Boxed W0 w.heap.size 3 (.int .i64 g) := by rw [hW0]; exact (((bG2.alloc _).alloc _).alloc _).alloc _
  have hb0' : Below w.heap.size w W0 := by rw [hW0]; exact (((hb2.alloc hb2.size _).alloc (by simp; omega) _).alloc (by simp; omega) _).alloc (by simp; omega) _
  have hX0 : BX W0 (w2.heap.size + 1) (w2.heap.size + 1 + 1) (w2.heap.size + 1 + 2) (.slice A a.length c) (.slice A' b.length c') (.slice A'' p.length c'') := by
    rw [hW0]
    refine ⟨?_, ?_, ?_⟩
    · refine (Below.heap_alloc _ _ _ (by simp)).trans ((Below.heap_alloc _ _ _ (by simp)).trans (heap_alloc_new' _ _ (by simp)))
    · refine (Below.heap_alloc _ _ _ (by simp)).trans (heap_alloc_new' _ _ (by simp))
    · exact heap_alloc_new' _ _ (by simp)
  have hz0 : W0.heap.size = w2.heap.size + 4 := by rw [hW0]; simp
  rw [← hW0]
  clear hW0 bN bG2
  obtain ⟨A3, c3, ev, hna, hca, HA⟩ := ha.tok
  rw [Value.slice.injEq] at ev
  obtain ⟨ev1, -, ev3⟩ := ev
  subst ev1
  subst ev3
  obtain ⟨A3, c3, ev, hnb, hcb, HB⟩ := hb.tok
  rw [Value.slice.injEq] at ev
  obtain ⟨ev1, -, ev3⟩ := ev
  subst ev1
  subst ev3
  obtain ⟨A2, c2, ev, hnp, hcp, HP⟩ := hp.tok
  rw [Value.slice.injEq] at ev
  obtain ⟨ev1, -, ev3⟩ := ev
  subst ev1
  subst ev3
  refine (wpIn_wide (n := 9)).1 ?_
  refine wpIn_rangeFunc_ownH rfl (by omega) (gf := 46) (lb := #[.pointer (some ⟨w2.heap.size + 1 + 2, 0, none⟩), .pointer (some ⟨w2.heap.size + 1, 0, none⟩), .pointer (some ⟨w2.heap.size + 1 + 1, 0, none⟩)]) rfl trivial (enters_of Try.func46 (by kernel_rfl) rfl)
    (iter_stops Fence.wide 8 trivial rfl (by omega) w.heap.size (w2.heap.size + 1) (w2.heap.size + 1 + 1) (w2.heap.size + 1 + 2) A A' A'' a.length b.length c c' c'' p W0 (by omega) hX0 hnp hcp (HP.below hb0') HI.out (by omega) (by omega))
    KpN.trans (kpN_b (by omega)) (Below.refl _ _) (fun _ => rfl)
    (fun pre W => (Boxed W w2.heap.size 3 (.int .i64 (0 - g * offs pre)) ∧ Boxed W w.heap.size 3 (.int .i64 g)) ∧ Below w.heap.size w W)
    (fun _ _ _ => False)
    (OwnFrom.and (OwnFrom.and (Own.from (boxed_own _ _ _) _) (Own.from (boxed_own _ _ _) _)) (ownFrom_below (Nat.le_refl _) (by omega)))
    (fun _ _ _ _ _ hs _ _ => hs)
    ⟨⟨by simpa [offs] using bN0, bG0⟩, hb0'⟩
    (fun x a' W => ∃ Bx, w2.heap.size < Bx ∧ W.heap[Bx]? = some (.cells #[.int .i64 x.1, .int .i64 x.2.1, .int .i64 x.2.2.1, .int .i64 x.2.2.2.1, .bool x.2.2.2.2] 60 (0, 0)) ∧ a' = { tmps := #[Value.slice A a.length c, Value.slice A' b.length c', Value.slice A'' p.length c'', Value.int IntKind.i64 g, undef, undef, undef, Value.pointer (some ⟨w.heap.size, 0, none⟩), Value.int IntKind.i64 0, Value.int IntKind.i64 0, Value.int IntKind.i64 (bothL a b), Value.int IntKind.i64 (gapL g), Value.int IntKind.i64 (lpairsL a b p), Value.pointer (some ⟨w2.heap.size, 0, none⟩), Value.pointer (some ⟨Bx, 0, none⟩), undef, undef, Value.slice A a.length c, Value.slice A' b.length c', Value.int IntKind.i64 (bothL a b), Value.int IntKind.i64 (bothL a b), Value.bool false, undef, Value.int IntKind.i64 g, Value.int IntKind.i64 (gapL g), Value.int IntKind.i64 (gapL g), Value.bool false, undef, Value.slice A a.length c, Value.slice A' b.length c', Value.slice A'' p.length c'', Value.int IntKind.i64 (lpairsL a b p), Value.int IntKind.i64 (lpairsL a b p), Value.bool false, undef, Value.slice A a.length c, Value.slice A' b.length c', Value.slice A'' p.length c'', Value.func (Fn.func 46) #[] #[.pointer (some ⟨w2.heap.size + 1 + 2, 0, none⟩), .pointer (some ⟨w2.heap.size + 1, 0, none⟩), .pointer (some ⟨w2.heap.size + 1 + 1, 0, none⟩)], Value.agg #[.int .i64 x.1, .int .i64 x.2.1, .int .i64 x.2.2.1, .int .i64 x.2.2.2.1, .bool x.2.2.2.2], undef, undef, undef, undef, undef, undef, undef, undef, undef, undef, undef, undef, undef, undef, undef, undef, undef, undef, undef, undef, undef, undef, undef, undef, undef, undef, undef], defers := [] })
    (fun x a' _ X Y row hs hg hr => by
      obtain ⟨Bx, h1, h2, h3⟩ := hs
      refine ⟨Bx, h1, (hg.block Bx (Array.getElem?_eq_some_iff.1 h2).1 (fun e => ?_)).trans h2, h3⟩
      obtain ⟨_, o, ho, hc⟩ := hr Bx e.symm
      rw [h2] at ho
      injection ho with ho
      subst ho
      simp [Obj.isCells] at hc)
    ?assign ?body ?done ?stop
  case assign =>
    rintro l pre x W K ⟨⟨bN1, bG1⟩, hB1⟩ hK
    simp only [encG]
    gi_wp2
    exact hK _ _ ((KeepsOthers.alloc _ _).from _) ((KpN.refl _ W).alloc hB1.size _) ⟨⟨bN1.alloc _, bG1.alloc _⟩, hB1.alloc hB1.size _⟩ ⟨W.heap.size, bN1.lt, heap_alloc_new _ _, rfl⟩
  case body =>
    rintro l pre x a' W hl ⟨r, hr⟩ ⟨⟨bN1, bG1⟩, hB1⟩ ⟨Bx, hBx, bX, rfl⟩ hlt
    obtain ⟨x0, x1, x2, x3, x4⟩ := x
    simp only at bX
    have c4 : W.cell? ⟨Bx, 4, none⟩ = some (.bool x4) := blk_cell bX 4
    have cN := bN1.cell
    have fN := bN1.frozen
    have cG := bG1.cell
    have hoff : offs pre ≤ pre.length := List.length_filter_le _ _
    cases x4
    · have HO : Hid (offs (pre ++ [(x0, x1, x2, x3, false)]) = offs pre + 1) := Lib.hid (by rw [offs_append]; rfl)
      have hm : 0 ≤ g * (offs pre : Int) := Int.mul_nonneg g1 (by omega)
      have hm2 : g * (offs pre : Int) ≤ 1000 * 5000 := Int.mul_le_mul g2 (by omega) (by omega) (by omega)
      obtain ⟨G, hG⟩ : ∃ G, G = g * (offs pre : Int) := ⟨_, rfl⟩
      have HE : Hid ((0 : Int) - g * ((offs pre + 1 : Nat) : Int) = -G - g) := Lib.hid (by rw [Int.natCast_add, Int.mul_add, ← hG]; omega)
      rw [← hG] at cN hm hm2
      clear hG
      gi_wp2
      refine ⟨(KeepsOthers.setCell _ _ _).from _, (KpN.refl _ W).grown (grownBy_setCell' W _ _) bN1 (by rintro (h | h | h) <;> exact absurd h (by decide)) (by omega), ⟨⟨?_, bG1.other (by omega) _⟩, hB1.setCell (p := ⟨w2.heap.size, 0, none⟩) (by show w.heap.size ≤ w2.heap.size; omega) _⟩⟩
      rw [HO.out, HE.out]
      exact bN1.set _
    · have HO : Hid (offs (pre ++ [(x0, x1, x2, x3, true)]) = offs pre) := Lib.hid (by rw [offs_append]; rfl)
      gi_wp2
      exact ⟨KeepsFrom.refl _ _, KpN.refl _ _, ⟨⟨by rw [HO.out]; exact bN1, bG1⟩, hB1⟩⟩
  case done =>
    rintro D zs W hD rfl ⟨⟨bN1, bG1⟩, hB1⟩ hK
    have cN := bN1.cell
    have fN := bN1.frozen
    have hbD := hB1.size
    have HO := Lib.hid (offs_regs a.length b.length (p.length + 1) p 0 0 (by omega))
    have HSC := Lib.hid (scoreF_gaps a b g p 0 0 0)
    obtain ⟨q, hq⟩ : ∃ q, q = offs (regs a.length b.length (p.length + 1) p 0 0) := ⟨_, rfl⟩
    rw [← hq] at cN bN1 HO
    have hqb : q ≤ 5000 := by
      have := regs_length a.length b.length (p.length + 1) p 0 0 (by omega)
      have h2 : q ≤ (regs a.length b.length (p.length + 1) p 0 0).length := by rw [hq]; exact List.length_filter_le _ _
      omega
    have hm : 0 ≤ g * (q : Int) := Int.mul_nonneg g1 (by omega)
    have hm2 : g * (q : Int) ≤ 1000 * 5000 := Int.mul_le_mul g2 (by omega) (by omega) (by omega)
    obtain ⟨G, hG⟩ : ∃ G, G = g * (q : Int) := ⟨_, rfl⟩
    have HSC2 : Hid (scoreL a b g p = -G + wsumL a b p) := Lib.hid (by show scoreF a b g p 0 0 0 = _; rw [HSC.out, ← HO.out, ← hG]; omega)
    have hm3 : 0 ≤ G ∧ G ≤ 5000000 := by rw [hG]; omega
    have bN2 : Boxed W w2.heap.size 3 (.int .i64 (-G)) := by rw [hG]; simpa using bN1
    obtain ⟨m1, m2⟩ := hm3
    clear hq hG hm hm2 HO HSC cN bN1 hqb fN
    gi_wp2
    go_wp2_with fail
    go_loopw [48] (fun i wr => ∃ k : Nat, k ≤ p.length ∧ i = .int .i64 k ∧ Boxed wr w2.heap.size 3 (.int .i64 (-G + wsumL a b (p.take k))) ∧ Below w.heap.size w wr ∧ wr.heap[D]? = some (.deferred (some []))) (fun i _ => p.length - (intOf i).toNat)
    case atStart => exact ⟨0, Nat.zero_le _, rfl, by simpa [wsumL] using bN2, hB1, hK⟩
    case round =>
      obtain ⟨k, hk, rfl, bNk, hbk, hKk⟩ := hrel
      have hbz := hbk.size
      have HKk := Lib.hid hKk
      have hDlt := (Array.getElem?_eq_some_iff.1 hKk).1
      clear hKk
      by_cases hlt : k < p.length
      · obtain ⟨HWS, hws1, hws2⟩ := wsumL_take (a := a) (b := b) HF.out.1 HF.out.2 k hlt
        have HWS := Lib.hid HWS
        obtain ⟨sm, hsm⟩ : ∃ sm, sm = wsumL a b (p.take k) := ⟨_, rfl⟩
        rw [← hsm] at bNk HWS hws1 hws2
        clear hsm
        have hir := HIR.out p[k] (by simp)
        obtain ⟨x, hx⟩ : ∃ x, x = p[k] := ⟨_, rfl⟩
        obtain ⟨b3, o3, hA3, hbB3, g31, g32⟩ := (HP.below hbk) k hlt
        subst hA3
        rw [← hx] at HWS hir g31 g32
        clear hx
        obtain ⟨xa, xb⟩ := x
        obtain ⟨hx1, hx2, hx3, hx4⟩ := hir
        simp only at hx1 hx2 hx3 hx4 g31 g32
        obtain ⟨ia, rfl⟩ := Int.eq_ofNat_of_zero_le hx1
        obtain ⟨ib, rfl⟩ := Int.eq_ofNat_of_zero_le hx3
        have hia : ia < a.length := by omega
        have hib : ib < b.length := by omega
        obtain ⟨b1, o1, hA1, hbB1, g11, g12⟩ := (HA.below hbk) ia hia
        obtain ⟨b2, o2, hA2, hbB2, g21, g22⟩ := (HB.below hbk) ib hib
        subst hA1 hA2
        have hw1 := HF.out.1 a[ia] (by simp)
        have hw2 := HF.out.2 b[ib] (by simp)
        have HW1 := Lib.hid (wt_at a ia hia)
        have HW2 := Lib.hid (wt_at b ib hib)
        obtain ⟨ta, hta⟩ : ∃ ta, ta = a[ia] := ⟨_, rfl⟩
        obtain ⟨tb, htb⟩ : ∃ tb, tb = b[ib] := ⟨_, rfl⟩
        rw [← hta] at g11 g12 hw1 HW1
        rw [← htb] at g21 g22 hw2 HW2
        clear hta htb hx1 hx2 hx3 hx4
        have cNk := bNk.cell
        have fNk := bNk.frozen
        have l1 : b1 < wr.heap.size := by omega
        have l2 : b2 < wr.heap.size := by omega
        have l3 : b3 < wr.heap.size := by omega
        have lN := bNk.lt
        obtain ⟨mn, hmn⟩ : ∃ mn, mn = min ta.2 tb.2 := ⟨_, rfl⟩
        have hmn1 : 0 ≤ mn := by rw [hmn]; omega
        have hmn2 : mn ≤ 1000 := by rw [hmn]; omega
        have HMN := Lib.hid hmn
        clear hmn
        obtain ⟨wq, hwq⟩ : ∃ wq, wq = wr.alloc (.cells #[.int .i64 ia, .int .i64 ib] 62) := ⟨_, rfl⟩
        have qb : Below wr.heap.size wr wq := by rw [hwq]; exact (Below.refl _ _).alloc (Nat.le_refl _) _
        go_upto_region 18 with fail
        rw [← hwq]
        have q0 : wq.cell? ⟨wr.heap.size, 0, none⟩ = some (.int .i64 ia) := by rw [hwq]; exact blk_cell (heap_alloc_new wr _) 0
        have q1 : wq.cell? ⟨wr.heap.size, 1, none⟩ = some (.int .i64 ib) := by rw [hwq]; exact blk_cell (heap_alloc_new wr _) 1
        have q2 := cell_over g11 qb
        have q3 := cell_over g12 qb
        have q4 := cell_over g21 qb
        have q5 := cell_over g22 qb
        have bNq : Boxed wq w2.heap.size 3 (.int .i64 (-G + sm)) := (qb.block _ lN).trans bNk
        have q6 := bNq.cell
        have q7 := bNq.frozen
        have Q6 : Hid (wq.drew.cell? ⟨w2.heap.size, 0, none⟩ = some (.int .i64 (-G + sm))) := Lib.hid q6
        have Q7 : Hid (wq.drew.frozen? ⟨w2.heap.size, 0, none⟩ = false) := Lib.hid q7
        have hbq := hbk.trans (qb.mono hbz)
        have hzq := qb.size
        clear hwq g11 g12 g21 g22 g31 g32 cNk fNk
        have hwrap : IntKind.i64.wrap (-G + sm + mn) = -G + sm + mn := IntWalk.i64_in _ (by omega)
        have hbz2 : w.heap.size ≤ w2.heap.size := by omega
        refine wp_region_noPanic ?_
        go_region_with (go_at_call 41; refine (weight_any ta tb _).mono ?_; rintro e w1 ⟨rfl, hb1⟩; rw [← HMN.out]; have cN1 := cell_over Q6.out hb1; have fN1 := frozen_over Q6.out Q7.out hb1)
        all_goals
          refine NoPanic.normal ?_
          have bN1 : Boxed w1 w2.heap.size 3 (.int .i64 (-G + sm)) := (hb1.block _ bNq.lt).trans bNq
          have hK1 : w1.heap[D]? = some (.deferred (some [])) := (hb1.block _ (by show D < wq.heap.size; omega)).trans ((qb.block _ hDlt).trans HKk.out)
          have hbw1 : Below w.heap.size w w1 := hbq.drew.trans (hb1.mono (by show w.heap.size ≤ wq.heap.size; omega))
          have fin := lscore_round bN1 hK1 hbw1 (by omega) hbz2 (v := .int .i64 (-G + sm + mn))
          have FIN := Lib.hid fin
          clear hwrap fin bN1 hK1 hbw1 cN1 fN1
          go_wp2_with fail
          go_roundw
          case rel => exact ⟨k + 1, by omega, by go_num, by rw [HWS.out, HW1.out, HW2.out, ← HMN.out, ← Int.add_assoc]; exact FIN.out.1, FIN.out.2.1, FIN.out.2.2⟩
          case measure => simp [intOf]; omega
      · have HE : Hid (p.take k = p) := Lib.hid (List.take_of_length_le (by omega))
        have cNk := bNk.cell
        rw [HE.out] at cNk
        go_wp2_with fail
        refine ⟨by simp, .inl ⟨_, _, rfl, run_takeDeferred HKk.out, ?_⟩⟩
        refine ⟨.tuple #[.int .i64 (-G + wsumL a b p), .int .i64 0], by simp [results, Try.results31, go_sem], ?_, ?_⟩
        · rw [HSC2.out]
        · exact hbk.trans (belowK_b (w := w) (Nat.le_refl _) _ D _ _ (by omega) HKk.out rfl rfl)
  case stop =>
    rintro D c pre W _ _ h _
    exact h.elim
end Go.Proofs.Ytbpegoekjlehcaa
