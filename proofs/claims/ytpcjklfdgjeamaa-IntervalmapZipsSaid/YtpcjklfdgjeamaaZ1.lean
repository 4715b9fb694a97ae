/- Walk: Zip. -/
import Derived.Test.YtpcjklfdgjeamaaZp
import Derived.Test.YtpcjklfdgjeamaaA1
namespace Go.Proofs.Ytpcjklfdgjeamaa
open Go.RowKit

def encP (r : Pr) : List Value := [.int .i64 r.1, .int .i64 r.2.1, .int .i64 r.2.2.1, .int .i64 r.2.2.2]
theorem encP_length (r : Pr) : (encP r).length = 4 := rfl
theorem encP_one (r : Pr) : ∀ u ∈ encP r, u.oneCell' = true := by
  intro u hu
  simp only [encP, List.mem_cons, List.not_mem_nil, or_false] at hu
  rcases hu with rfl | rfl | rfl | rfl <;> rfl
theorem info74 : (Try.prog.info? 74).map (fun i => (i.zero, i.size, i.bytes)) = some (some (.agg #[.int .i64 0, .int .i64 0, .int .i64 0, .int .i64 0]), 4, 32) := by kernel_rfl
theorem info75 : (Try.prog.info? 75).map (fun i => (i.zero, i.size, i.bytes)) = some (some (.agg #[.int .i64 0, .int .i64 0, .int .i64 0, .int .i64 0]), 4, 32) := by kernel_rfl

theorem keep8 {w W : World} {b1 o1 b2 o2 b3 o3 b4 o4 b5 o5 b6 o6 b7 o7 b8 o8 : Nat} {u1 u2 u3 u4 u5 u6 u7 u8 : Value} (h1 : w.cell? ⟨b1, o1, none⟩ = some u1) (h2 : w.cell? ⟨b2, o2, none⟩ = some u2) (h3 : w.cell? ⟨b3, o3, none⟩ = some u3) (h4 : w.cell? ⟨b4, o4, none⟩ = some u4) (h5 : w.cell? ⟨b5, o5, none⟩ = some u5) (h6 : w.cell? ⟨b6, o6, none⟩ = some u6) (h7 : w.cell? ⟨b7, o7, none⟩ = some u7) (h8 : w.cell? ⟨b8, o8, none⟩ = some u8)
    (hb : Below w.heap.size w W) : W.cell? ⟨b1, o1, none⟩ = some u1 ∧ W.cell? ⟨b2, o2, none⟩ = some u2 ∧ W.cell? ⟨b3, o3, none⟩ = some u3 ∧ W.cell? ⟨b4, o4, none⟩ = some u4 ∧ W.cell? ⟨b5, o5, none⟩ = some u5 ∧ W.cell? ⟨b6, o6, none⟩ = some u6 ∧ W.cell? ⟨b7, o7, none⟩ = some u7 ∧ W.cell? ⟨b8, o8, none⟩ = some u8 :=
  ⟨cell_over h1 hb, cell_over h2 hb, cell_over h3 hb, cell_over h4 hb, cell_over h5 hb, cell_over h6 hb, cell_over h7 hb, cell_over h8 hb⟩
theorem two_cells (wr : World) (A B : List Value) (D : Obj) (w5 : World) {own : Option Nat} (hg : (((wr.alloc (.cells A.toArray 31)).alloc (.cells B.toArray 31)).alloc D).drew.grownBy w5 own) (hne : ∀ p, own = some p → p < wr.heap.size) :
    (∀ i u, A[i]? = some u → w5.cell? ⟨wr.heap.size, i, none⟩ = some u) ∧ (∀ i u, B[i]? = some u → w5.cell? ⟨wr.heap.size + 1, i, none⟩ = some u) := by
  have hn0 : ∀ j, own ≠ some (wr.heap.size + j) := fun j e => by have := hne _ e; omega
  refine ⟨fun i u h => ?_, fun i u h => ?_⟩
  · have c0 := cell_over (cells_new wr A 31 i u h) ((((Below.refl _ _).alloc (Nat.le_refl _) (.cells B.toArray 31)).alloc (by simp) D).drew)
    exact hg.cell c0 (fun e => hn0 0 e.symm)
  · have c0 := cell_over (cells_at (G := wr.heap.size + 1) (wr.alloc (.cells A.toArray 31)) B 31 (by simp) i u h) (((Below.refl _ _).alloc (Nat.le_refl _) D).drew)
    exact hg.cell c0 (fun e => hn0 1 e.symm)
theorem zlen_none (m1 m2 : Nat) (l k : List Int) (w : World) (h1 : MapIs w m1 l) (h2 : MapIs w m2 k) (hne : l.length ≠ k.length) :
    Calls Try.prog 32 #[.pointer (some ⟨m1, 0, none⟩), .pointer (some ⟨m2, 0, none⟩)] w fun e w' => e = .returned (.tuple #[.slice none 0 0, .int .i64 2]) ∧ Below w.heap.size w w' := by
  have L1 := Lib.hid (len_b m1 l w h1)
  have L2 := Lib.hid (fun w' (hb : Below w.heap.size w w') => len_b m2 k w' (h2.below hb))
  have hn : ((l.length : Int) != (k.length : Int)) = true := by rw [bne_iff_ne]; omega
  have hn' : (l.length != k.length) = true := by simpa using hne
  clear h1 h2 hne
  go_enter Try.func32, Try.ntmps32
  go_wp2_with fail
  refine L1.out.mono ?_
  rintro e w1 ⟨rfl, b1⟩
  go_wp2_with fail
  refine (L2.out w1 b1).mono ?_
  rintro e w2 ⟨rfl, b2⟩
  go_wp2
  go_ret2
  exact ⟨rfl, b1.trans (b2.mono b1.size)⟩

set_option maxRecDepth 100000 in
set_option maxHeartbeats 4000000 in
theorem zip_some (m1 m2 : Nat) (l k : List Int) (w : World) (h1 : MapIs w m1 l) (h2 : MapIs w m2 k) (he : l.length = k.length) (hl : l.length ≤ 100000) :
    Calls Try.prog 32 #[.pointer (some ⟨m1, 0, none⟩), .pointer (some ⟨m2, 0, none⟩)] w fun e w' => ∃ v, e = .returned (.tuple #[v, .int .i64 0]) ∧ Own encP 4 74 w' w.heap.size v (pairsOf l k) ∧ Below w.heap.size w w' := by
  obtain ⟨i0, hi, hz0, hz1, hz2⟩ := info_parts info74
  have hrl := runs_length l
  have hrk := runs_length k
  have hbl := cont_bounds _ 0 (runs_ok l).1
  have hbk := cont_bounds _ 0 (runs_ok k).1
  rw [(runs_ok l).2.1] at hbl
  rw [(runs_ok k).2.1] at hbk
  have L1 := Lib.hid (len_b m1 l w h1)
  have L2 := Lib.hid (fun w' (hb : Below w.heap.size w w') => len_b m2 k w' (h2.below hb))
  rw [← he] at L2 hbk hrk
  have hZ := zstart l k he
  obtain ⟨Z, hZZ⟩ : ∃ Z, Z = pairsOf l k := ⟨_, rfl⟩
  rw [← hZZ] at hZ ⊢
  obtain ⟨g, hg⟩ : ∃ g, g = l.length := ⟨_, rfl⟩
  rw [← hg] at L1 L2 hbl hbk hrl hrk hl
  have hnn : ((g : Int) != (g : Int)) = false := by simp
  clear he hg hZZ
  obtain ⟨v1, hm1, hv1⟩ := h1
  obtain ⟨v2, hm2, hv2⟩ := h2
  have p1 : w.cell? ⟨m1, 0, none⟩ = some v1 := blk_cell hm1 0
  have p2 : w.cell? ⟨m2, 0, none⟩ = some v2 := blk_cell hm2 0
  obtain ⟨A1, c1, rfl, ha1, ha2, hR1⟩ := hv1.run
  obtain ⟨A2, c2, rfl, hb1, hb2, hR2⟩ := hv2.run
  obtain ⟨R, hR⟩ : ∃ R, R = runsOf l := ⟨_, rfl⟩
  obtain ⟨S, hS⟩ : ∃ S, S = runsOf k := ⟨_, rfl⟩
  clear hm1 hm2 hv1 hv2
  rw [← hR] at p1 ha1 hrl hbl hR1 hZ
  rw [← hS] at p2 hb1 hrk hbk hR2 hZ
  obtain ⟨n1, hn1⟩ : ∃ n, n = R.length := ⟨_, rfl⟩
  obtain ⟨n2, hn2⟩ : ∃ n, n = S.length := ⟨_, rfl⟩
  rw [← hn1] at p1 ha1 hrl
  rw [← hn2] at p2 hb1 hrk
  have HN1 := Lib.hid hn1
  have HN2 := Lib.hid hn2
  have HB1 := Lib.hid hbl
  have HB2 := Lib.hid hbk
  have HR1 := Lib.hid hR1
  have HR2 := Lib.hid hR2
  have HZ := Lib.hid hZ
  clear hn1 hn2 hR hS hbl hbk hR1 hR2 hZ
  go_enter Try.func32, Try.ntmps32
  go_wp2_with fail
  refine L1.out.mono ?_
  rintro e w1 ⟨rfl, b1⟩
  go_wp2_with fail
  refine (L2.out w1 b1).mono ?_
  rintro e w2 ⟨rfl, b2⟩
  have b3 := b1.trans (b2.mono b1.size)
  clear b1 b2
  go_wp2
  go_loopw [6, 7, 8] (fun ov iv kv wr => ∃ (i j : Nat) (o : List Pr), i ≤ n1 ∧ j ≤ n2 ∧ iv = .int .i64 i ∧ kv = .int .i64 j ∧ Own encP 4 74 wr w.heap.size ov o ∧ Hid (ZInv (R.drop i) (S.drop j) o Z) ∧ o.length ≤ i + j ∧ Below w.heap.size w wr) (fun _ iv kv _ => (n1 + n2) - ((intOf iv).toNat + (intOf kv).toNat))
  case atStart => exact ⟨0, 0, [], Nat.zero_le _, Nat.zero_le _, rfl, rfl, Own.nil _ _, HZ, by simp, b3⟩
  case round =>
    clear b3
    obtain ⟨i, j, o, hi1, hj1, rfl, rfl, hown, HJ, hol, hbr⟩ := hrel
    have hbz := hbr.size
    have e1 := cell_over p1 hbr
    have e2 := cell_over p2 hbr
    obtain ⟨Ao, co, rfl, hco1, hco2⟩ := hown.shape
    by_cases hlt : i < n1
    · have hiR : i < R.length := by rw [← HN1.out]; exact hlt
      have hj0 := zmid (by have := HJ.out; rw [List.drop_eq_getElem_cons hiR] at this; exact this)
      have hjS : j < S.length := by
        obtain ⟨y, B', e⟩ := hj0
        have := congrArg List.length e
        rw [List.length_drop] at this
        simp at this
        omega
      clear hj0
      have hj2 : j < n2 := by rw [HN2.out]; exact hjS
      obtain ⟨bx, ox, rfl, hbx, g1, g2, g3⟩ := (HR1.out.below hbr) i hiR
      obtain ⟨by', oy, rfl, hby, k1, k2, k3⟩ := (HR2.out.below hbr) j hjS
      have hx3 := HB1.out (R[i]'hiR) (List.getElem_mem _)
      have hy3 := HB2.out (S[j]'hjS) (List.getElem_mem _)
      have HSt : Hid (∀ t, t = min (R[i]'hiR).2.1 (S[j]'hjS).2.1 → ZInv (if (R[i]'hiR).2.1 = t then R.drop (i + 1) else R.drop i) (if (S[j]'hjS).2.1 = t then S.drop (j + 1) else S.drop j) (o ++ [(max (R[i]'hiR).1 (S[j]'hjS).1, t, (R[i]'hiR).2.2, (S[j]'hjS).2.2)]) Z) := Lib.hid fun t ht => by
        have := HJ.out
        rw [List.drop_eq_getElem_cons hiR, List.drop_eq_getElem_cons hjS] at this ⊢
        exact zstep this ht
      obtain ⟨x, hx⟩ : ∃ x, x = R[i]'hiR := ⟨_, rfl⟩
      obtain ⟨y, hy⟩ : ∃ y, y = S[j]'hjS := ⟨_, rfl⟩
      rw [← hx] at g1 g2 g3 hx3 HSt
      rw [← hy] at k1 k2 k3 hy3 HSt
      clear hx hy hiR hjS
      obtain ⟨x0, x1, x2⟩ := x
      obtain ⟨y0, y1, y2⟩ := y
      simp only at g1 g2 g3 hx3 k1 k2 k3 hy3 HSt
      obtain ⟨X0, X1, X2⟩ := hx3
      obtain ⟨Y0, Y1, Y2⟩ := hy3
      obtain ⟨q, hq⟩ : ∃ q, q = max x0 y0 := ⟨_, rfl⟩
      rw [← hq] at HSt
      have hmx : (if x0 < y0 then y0 else x0) = q := by rw [hq]; split <;> omega
      clear hq HJ
      by_cases h1 : x1 < y1
      · have hmn : (if y1 < x1 then y1 else x1) = x1 := if_neg (by omega)
        have HJ5 := Lib.hid (HSt.out x1 (by omega))
        rw [if_pos rfl, if_neg (by omega)] at HJ5
        have hy1x1 : (y1 == x1) = false := by rw [beq_eq_false_iff_ne]; omega
        clear HSt HB1 HB2 HZ
        go_wp2
        go_region_held3 (fun w' => w'.cell? ⟨m1, 0, none⟩ = some (.slice (some ⟨bx, ox, none⟩) n1 c1) ∧ w'.cell? ⟨m2, 0, none⟩ = some (.slice (some ⟨by', oy, none⟩) n2 c2) ∧ w'.cell? ⟨bx, ox + i * 3, none⟩ = some (.int .i64 x0) ∧ w'.cell? ⟨bx, ox + i * 3 + 1, none⟩ = some (.int .i64 x1) ∧ w'.cell? ⟨bx, ox + i * 3 + 2, none⟩ = some (.int .i64 x2) ∧ w'.cell? ⟨by', oy + j * 3, none⟩ = some (.int .i64 y0) ∧ w'.cell? ⟨by', oy + j * 3 + 1, none⟩ = some (.int .i64 y1) ∧ w'.cell? ⟨by', oy + j * 3 + 2, none⟩ = some (.int .i64 y2))
          (first
            | exact ⟨e1, e2, g1, g2, g3, k1, k2, k3⟩
            | (refine keep8 e1 e2 g1 g2 g3 k1 k2 k3 ?_; repeat (first | exact Below.refl _ _ | refine Below.drew ?_ | refine Below.alloc ?_ (by simp) _ | refine Below.setCell ?_ (by simp) _)))
          (first | fail)
        all_goals
          go_wp2_with (at_builtin; refine wpList_push _ rfl _ _ 68 rfl w.heap.size 74 i0 _ 4 32 Try.underlying68 hi hz0 hz1 hz2 rfl (by decide) encP_length encP_one _ o rfl (Own.drew (((hown.alloc _).alloc _).alloc _)) _ _ (q, x1, x2, y2) rfl (cells_at _ _ _ (by simp)) ?c1 ?c2 ?c3 ?_)
          case c1 => omega
          case c2 => omega
          case c3 => simp; omega
          intro v' w5 hown5 hg5
          have hb5 : Below w.heap.size w w5 := (((((hbr.alloc hbz _).alloc (by simp; omega) _).alloc (by simp; omega) _).drew).grown hg5 (by simp; omega) (fun p hp => (hown.lt p hp).1))
          obtain ⟨f1, f2⟩ := two_cells wr _ _ _ w5 hg5 (fun p hp => (hown.lt p hp).2)
          have F1 := f1 1 _ rfl
          have F2 := f2 1 _ rfl
          clear hown f1 f2 hg5 e1 e2 g1 g2 g3 k1 k2 k3 hbr hbz
          go_wp2
          go_roundw
          case rel => exact ⟨i + 1, j, o ++ [(q, x1, x2, y2)], by omega, by omega, by go_num, by go_num, hown5, HJ5, by simp; omega, hb5⟩
          case measure => simp [intOf]; omega
      · by_cases h3 : x1 = y1
        · subst h3
          have hmn : (if x1 < x1 then x1 else x1) = x1 := by split <;> rfl
          have HJ5 := Lib.hid (HSt.out x1 (by omega))
          rw [if_pos rfl, if_pos rfl] at HJ5
          clear HSt HB1 HB2 HZ
          go_wp2
          go_region_held3 (fun w' => w'.cell? ⟨m1, 0, none⟩ = some (.slice (some ⟨bx, ox, none⟩) n1 c1) ∧ w'.cell? ⟨m2, 0, none⟩ = some (.slice (some ⟨by', oy, none⟩) n2 c2) ∧ w'.cell? ⟨bx, ox + i * 3, none⟩ = some (.int .i64 x0) ∧ w'.cell? ⟨bx, ox + i * 3 + 1, none⟩ = some (.int .i64 x1) ∧ w'.cell? ⟨bx, ox + i * 3 + 2, none⟩ = some (.int .i64 x2) ∧ w'.cell? ⟨by', oy + j * 3, none⟩ = some (.int .i64 y0) ∧ w'.cell? ⟨by', oy + j * 3 + 1, none⟩ = some (.int .i64 x1) ∧ w'.cell? ⟨by', oy + j * 3 + 2, none⟩ = some (.int .i64 y2))
            (first
              | exact ⟨e1, e2, g1, g2, g3, k1, k2, k3⟩
              | (refine keep8 e1 e2 g1 g2 g3 k1 k2 k3 ?_; repeat (first | exact Below.refl _ _ | refine Below.drew ?_ | refine Below.alloc ?_ (by simp) _ | refine Below.setCell ?_ (by simp) _)))
            (first | fail)
          all_goals
            go_wp2_with (at_builtin; refine wpList_push _ rfl _ _ 68 rfl w.heap.size 74 i0 _ 4 32 Try.underlying68 hi hz0 hz1 hz2 rfl (by decide) encP_length encP_one _ o rfl (Own.drew (((hown.alloc _).alloc _).alloc _)) _ _ (q, x1, x2, y2) rfl (cells_at _ _ _ (by simp)) ?c1 ?c2 ?c3 ?_)
            case c1 => omega
            case c2 => omega
            case c3 => simp; omega
            intro v' w5 hown5 hg5
            have hb5 : Below w.heap.size w w5 := (((((hbr.alloc hbz _).alloc (by simp; omega) _).alloc (by simp; omega) _).drew).grown hg5 (by simp; omega) (fun p hp => (hown.lt p hp).1))
            obtain ⟨f1, f2⟩ := two_cells wr _ _ _ w5 hg5 (fun p hp => (hown.lt p hp).2)
            have F1 := f1 1 _ rfl
            have F2 := f2 1 _ rfl
            clear hown f1 f2 hg5 e1 e2 g1 g2 g3 k1 k2 k3 hbr hbz
            go_wp2
            go_roundw
            case rel => exact ⟨i + 1, j + 1, o ++ [(q, x1, x2, y2)], by omega, by omega, by go_num, by go_num, hown5, HJ5, by simp; omega, hb5⟩
            case measure => simp [intOf]; omega
        · have hmn : (if y1 < x1 then y1 else x1) = y1 := if_pos (by omega)
          have HJ5 := Lib.hid (HSt.out y1 (by omega))
          rw [if_neg (by omega), if_pos rfl] at HJ5
          have hx1y1 : (x1 == y1) = false := by rw [beq_eq_false_iff_ne]; omega
          clear HSt HB1 HB2 HZ
          go_wp2
          go_region_held3 (fun w' => w'.cell? ⟨m1, 0, none⟩ = some (.slice (some ⟨bx, ox, none⟩) n1 c1) ∧ w'.cell? ⟨m2, 0, none⟩ = some (.slice (some ⟨by', oy, none⟩) n2 c2) ∧ w'.cell? ⟨bx, ox + i * 3, none⟩ = some (.int .i64 x0) ∧ w'.cell? ⟨bx, ox + i * 3 + 1, none⟩ = some (.int .i64 x1) ∧ w'.cell? ⟨bx, ox + i * 3 + 2, none⟩ = some (.int .i64 x2) ∧ w'.cell? ⟨by', oy + j * 3, none⟩ = some (.int .i64 y0) ∧ w'.cell? ⟨by', oy + j * 3 + 1, none⟩ = some (.int .i64 y1) ∧ w'.cell? ⟨by', oy + j * 3 + 2, none⟩ = some (.int .i64 y2))
            (first
              | exact ⟨e1, e2, g1, g2, g3, k1, k2, k3⟩
              | (refine keep8 e1 e2 g1 g2 g3 k1 k2 k3 ?_; repeat (first | exact Below.refl _ _ | refine Below.drew ?_ | refine Below.alloc ?_ (by simp) _ | refine Below.setCell ?_ (by simp) _)))
            (first | fail)
          all_goals
            go_wp2_with (at_builtin; refine wpList_push _ rfl _ _ 68 rfl w.heap.size 74 i0 _ 4 32 Try.underlying68 hi hz0 hz1 hz2 rfl (by decide) encP_length encP_one _ o rfl (Own.drew (((hown.alloc _).alloc _).alloc _)) _ _ (q, y1, x2, y2) rfl (cells_at _ _ _ (by simp)) ?c1 ?c2 ?c3 ?_)
            case c1 => omega
            case c2 => omega
            case c3 => simp; omega
            intro v' w5 hown5 hg5
            have hb5 : Below w.heap.size w w5 := (((((hbr.alloc hbz _).alloc (by simp; omega) _).alloc (by simp; omega) _).drew).grown hg5 (by simp; omega) (fun p hp => (hown.lt p hp).1))
            obtain ⟨f1, f2⟩ := two_cells wr _ _ _ w5 hg5 (fun p hp => (hown.lt p hp).2)
            have F1 := f1 1 _ rfl
            have F2 := f2 1 _ rfl
            clear hown f1 f2 hg5 e1 e2 g1 g2 g3 k1 k2 k3 hbr hbz
            go_wp2
            go_roundw
            case rel => exact ⟨i, j + 1, o ++ [(q, y1, x2, y2)], by omega, by omega, by go_num, by go_num, hown5, HJ5, by simp; omega, hb5⟩
            case measure => simp [intOf]; omega
    · have hin : i = n1 := by omega
      subst hin
      have HF : Hid (o = Z) := Lib.hid (zend (by have := HJ.out; rw [List.drop_of_length_le (by have := HN1.out; omega)] at this; exact this))
      go_wp2
      go_ret2
      exact ⟨_, rfl, by rw [← HF.out]; exact hown, hbr⟩
end Go.Proofs.Ytpcjklfdgjeamaa
