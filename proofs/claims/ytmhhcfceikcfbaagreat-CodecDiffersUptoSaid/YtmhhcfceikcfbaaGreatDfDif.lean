/- Walk: the law on documents that differ. -/
import Derived.Test.YtmhhcfceikcfbaaGreatDfQ3
import Derived.Test.YtmhhcfceikcfbaaGreatDfSm1
import Derived.Test.YtmhhcfceikcfbaaGreatDfT3
namespace Go.Proofs.YtmhhcfceikcfbaaGreat
open Go.RowKit
theorem slv_two {α : Type} {R : Rp α} {sz g : Nat} {t : TypeId} {W : World} {G : Nat → Prop} {va vb : List Value} {x y : α} (hb : W.heap[g]? = some (.cells (va ++ vb).toArray t (0, 0))) (ha : va.length = sz) (hvb : vb.length = sz) (hG : G g) (hR : R W G va x) (hR2 : R W G vb y) : Slv R sz W G (.slice (some ⟨g, 0, none⟩) 2 2) [x, y] := by
 refine ⟨_, _, rfl, by simp, by simp [maxLen], fun _ => ⟨g, 0, rfl, hG, lt_of_blk hb, fun i z hz => ?_⟩⟩
 match i with
 | 0 =>
  simp only [List.getElem?_cons_zero, Option.some.injEq] at hz
  subst hz
  refine ⟨va, ha, hR, fun j u hu => ?_⟩
  rw [show 0 + 0 * sz + j = j by omega, blk_cell hb j]
  have hj := (List.getElem?_eq_some_iff.1 hu).1
  rw [List.getElem?_toArray, List.getElem?_append_left hj]
  exact hu
 | 1 =>
  simp only [List.getElem?_cons_succ, List.getElem?_cons_zero, Option.some.injEq] at hz
  subst hz
  refine ⟨vb, hvb, hR2, fun j u hu => ?_⟩
  rw [show 0 + 1 * sz + j = sz + j by omega, blk_cell hb (sz + j), List.getElem?_toArray, List.getElem?_append_right (by omega), ha, Nat.add_sub_cancel_left]
  exact hu
 | i + 2 => simp at hz
theorem dc_str {n : Nat} {x y : Dc n} (hx : dcD n x) (hy : dcD n y) (h : mkB (magic ++ dcE n x) = mkB (magic ++ dcE n y)) : x = y := by
 have hm : ∀ z : Dc n, ∀ b ∈ magic ++ dcE n z, b < 256 := fun z b hb => by
  rcases List.mem_append.1 hb with q | q
  ·simp [magic] at q
   omega
  ·exact byt_dc n z b q
 have h1 := congrArg bytesN h
 rw [bytesN_mkB (hm x), bytesN_mkB (hm y)] at h1
 have h2 := List.append_cancel_left h1
 have b1 := (fit_dcD n).back x hx []
 have b2 := (fit_dcD n).back y hy []
 rw [h2] at b1
 exact (ok_same b2 b1)
set_option maxRecDepth 100000 in
set_option maxHeartbeats 4000000 in
theorem differs_any (n : Nat) (G : Nat → Prop) (w : World) (vs us : List Value) (x y : Dc n) (hx : dcP n w G vs x) (hy : dcP n w G us y) (hG : ∀ b, G b → b < w.heap.size) (hzx : (dcE n x).length ≤ 10485760) (hzy : (dcE n y).length ≤ 10485760) : Calls Tryz.prog 5 #[.agg vs.toArray, .agg us.toArray] w (TrueC w) := by
 have hdx := dom_dc n _ _ _ _ hx
 have hdy := dom_dc n _ _ _ _ hy
 obtain ⟨f0, h0, h1, h2, h3, h4, r0, s0, s1, s2, s3, rfl, A0, A1, A2, A3⟩ := hx
 obtain ⟨f9, j0, j1, j2, j3, j4, r9, t0, t1, t2, t3, rfl, B0, B1, B2, B3⟩ := hy
 have hRx : dcP n w G [f0, h0, h1, h2, h3, h4, r0, s0, s1, s2, s3] x := ⟨_, _, _, _, _, _, _, _, _, _, _, rfl, A0, A1, A2, A3⟩
 have hRy : dcP n w G [f9, j0, j1, j2, j3, j4, r9, t0, t1, t2, t3] y := ⟨_, _, _, _, _, _, _, _, _, _, _, rfl, B0, B1, B2, B3⟩
 obtain ⟨fA, fc, rfl, _, _⟩ := A0.shape
 obtain ⟨rA, rc, rfl, _, hrm⟩ := A2.shape
 obtain ⟨gA, gc, rfl, _, _⟩ := B0.shape
 obtain ⟨qA, qc, rfl, _, hqm⟩ := B2.shape
 obtain ⟨fn, hfn⟩ : ∃ k, k = x.1.length := ⟨_, rfl⟩
 obtain ⟨gn, hgn⟩ : ∃ k, k = y.1.length := ⟨_, rfl⟩
 obtain ⟨rn, hrn⟩ : ∃ k, k = x.2.2.1.length := ⟨_, rfl⟩
 obtain ⟨qn, hqn⟩ : ∃ k, k = y.2.2.1.length := ⟨_, rfl⟩
 rw [← hfn] at A0 hRx
 rw [← hgn] at B0 hRy
 rw [← hrn] at A2 hRx
 rw [← hqn] at B2 hRy
 rw [← hfn, ← hgn, ← hrn, ← hqn]
 clear hfn hgn hrn hqn hrm hqm
 obtain ⟨N, hN⟩ : ∃ N, N = w.heap.size := ⟨_, rfl⟩
 obtain ⟨W, hW⟩ : ∃ W, W = ((w.alloc (.cells #[.slice fA fn fc, h0, h1, h2, h3, h4, .slice rA rn rc, s0, s1, s2, s3] 49)).alloc (.cells #[.slice gA gn gc, j0, j1, j2, j3, j4, .slice qA qn qc, t0, t1, t2, t3] 49)) := ⟨_, rfl⟩
 have hb1 : W.heap[N]? = some (.cells #[.slice fA fn fc, h0, h1, h2, h3, h4, .slice rA rn rc, s0, s1, s2, s3] 49 (0, 0)) := by rw [hW, hN]; exact (Below.heap_alloc _ _ _ (by simp)).trans (heap_alloc_new _ _)
 have hb2 : W.heap[N + 1]? = some (.cells #[.slice gA gn gc, j0, j1, j2, j3, j4, .slice qA qn qc, t0, t1, t2, t3] 49 (0, 0)) := by rw [hW, hN]; exact heap_alloc_new' _ _ (by simp)
 have hB : Below w.heap.size w W := by rw [hW]; exact ((Below.refl _ _).alloc (Nat.le_refl _) _).alloc (by simp) _
 have HDX := Lib.hid hdx
 have HDY := Lib.hid hdy
 have HZX := Lib.hid hzx
 have HZY := Lib.hid hzy
 have HRX := Lib.hid hRx
 have HRY := Lib.hid hRy
 have HA0 := Lib.hid A0
 have HA1 := Lib.hid A1
 have HA3 := Lib.hid A3
 have HB0 := Lib.hid B0
 have HB1 := Lib.hid B1
 have HB3 := Lib.hid B3
 have HG := Lib.hid hG
 have HW := Lib.hid hW
 have HN := Lib.hid hN
 have HB := Lib.hid hB
 have K := Lib.hid hb1
 have J := Lib.hid hb2
 clear hdx hdy hzx hzy hRx hRy A0 A1 A2 A3 B0 B1 B2 B3 hG hW hN hB hb1 hb2
 go_enter Tryz.func5, Tryz.ntmps5
 go_upto_region 1 with fail
 rw [← HW.out, ← HN.out]
 clear HW
 go_wp2_with fail
 refine (known15b _).mono ?_
 rintro e w1 ⟨rfl, hb⟩
 replace K := Lib.hid (blk_ov K.out hb)
 replace J := Lib.hid (blk_ov J.out hb)
 replace HB := Lib.hid (HB.out.trans (hb.mono HB.out.size))
 clear hb
 obtain ⟨M, hM⟩ : ∃ M, M = w1.heap.size := ⟨_, rfl⟩
 obtain ⟨X, hX⟩ : ∃ X, X = (w1.alloc (.cells #[.int .i64 0, .int .i64 0, .int .i64 0, .string ⟨#[]⟩, h0, h1, h2, h3, h4, .slice none 0 0, .slice none 0 0, .int .i64 0, .int .i64 0, .int .i64 0, .string ⟨#[]⟩, j0, j1, j2, j3, j4, .slice none 0 0, .slice none 0 0] 53)).alloc (.cells #[.slice fA fn fc, .slice gA gn gc, .slice (some ⟨M, 0, none⟩) 2 2] 33) := ⟨_, rfl⟩
 have b2 : X.heap[M]? = some (.cells #[.int .i64 0, .int .i64 0, .int .i64 0, .string ⟨#[]⟩, h0, h1, h2, h3, h4, .slice none 0 0, .slice none 0 0, .int .i64 0, .int .i64 0, .int .i64 0, .string ⟨#[]⟩, j0, j1, j2, j3, j4, .slice none 0 0, .slice none 0 0] 53 (0, 0)) := by
  rw [hX, hM]
  exact (Below.heap_alloc _ _ _ (by simp)).trans (heap_alloc_new _ _)
 have b3 : X.heap[M + 1]? = some (.cells #[.slice fA fn fc, .slice gA gn gc, .slice (some ⟨M, 0, none⟩) 2 2] 33 (0, 0)) := by
  rw [hX, hM]
  exact heap_alloc_new' _ _ (by simp)
 have hBX : Below w1.heap.size w1 X := by
  rw [hX]
  exact ((Below.refl _ _).alloc (Nat.le_refl _) _).alloc (by simp) _
 have hXs : X.heap.size = M + 2 := by rw [hX, hM]; simp
 have hbX := HB.out.trans (hBX.mono HB.out.size)
 have hH2 : hdP X (fun b => G b ∨ b = M) [h0, h1, h2, h3, h4] x.2.1 := stb_hd _ _ _ _ _ _ (fun b h => .inl h) (fun b hg hl => hbX.block b hl) HA1.out
 have hH3 : hdP X (fun b => G b ∨ b = M) [j0, j1, j2, j3, j4] y.2.1 := stb_hd _ _ _ _ _ _ (fun b h => .inl h) (fun b hg hl => hbX.block b hl) HB1.out
 have k3 : Slv (itP (n + 1)) 11 X (fun b => G b ∨ b = M) (.slice (some ⟨M, 0, none⟩) 2 2) _ := slv_two (va := [.int .i64 0, .int .i64 0, .int .i64 0, .string ⟨#[]⟩, h0, h1, h2, h3, h4, .slice none 0 0, .slice none 0 0]) (vb := [.int .i64 0, .int .i64 0, .int .i64 0, .string ⟨#[]⟩, j0, j1, j2, j3, j4, .slice none 0 0, .slice none 0 0]) b2 rfl rfl (.inr rfl) (x := ((0 : Int), (0 : Int), (0 : Int), (⟨#[]⟩ : ByteArray), x.2.1, ([] : List (It n)), ([] : List (Rw n)))) (y := ((0 : Int), (0 : Int), (0 : Int), (⟨#[]⟩ : ByteArray), y.2.1, ([] : List (It n)), ([] : List (Rw n))))
  ⟨_, _, _, _, _, _, _, rfl, ⟨i64_0, i64_0, i64_0, Nat.zero_le _⟩, hH2, Slv.nil _ _, Slv.nil _ _⟩ ⟨_, _, _, _, _, _, _, rfl, ⟨i64_0, i64_0, i64_0, Nat.zero_le _⟩, hH3, Slv.nil _ _, Slv.nil _ _⟩
 have hGX : ∀ b, (G b ∨ b = M) → b < X.heap.size := by
  rintro b (h | h)
  ·have := HG.out b h; have := hbX.size; omega
  ·omega
 have k0 : Slv (itP n) 11 X (fun b => G b ∨ b = M) (.slice fA fn fc) x.1 := HA0.out.mono (stb_it n) HG.out (fun b h => .inl h) hbX
 have k1 : Slv (itP n) 11 X (fun b => G b ∨ b = M) (.slice gA gn gc) y.1 := HB0.out.mono (stb_it n) HG.out (fun b h => .inl h) hbX
 have C18 := Lib.hid (small18 X X [.slice fA fn fc, .slice gA gn gc, .slice (some ⟨M, 0, none⟩) 2 2] (M + 1) 0 3 (fun j u hu => by rw [Nat.zero_add, blk_cell b3 j]; simpa using hu) (by simp) (by omega) (Below.refl _ _) (by
  intro v hv Y hY
  simp only [List.mem_cons, List.not_mem_nil, or_false] at hv
  rcases hv with rfl | rfl | rfl
  ·exact weight_any n _ Y _ _ (k0.below (stb_it n) hGX hY) (fun b h => Nat.lt_of_lt_of_le (hGX b h) hY.size)
  ·exact weight_any n _ Y _ _ (k1.below (stb_it n) hGX hY) (fun b h => Nat.lt_of_lt_of_le (hGX b h) hY.size)
  ·exact weight_any (n + 1) _ Y _ _ (k3.below (stb_it (n + 1)) hGX hY) (fun b h => Nat.lt_of_lt_of_le (hGX b h) hY.size)))
 have HX := Lib.hid hX
 have HM := Lib.hid hM
 have HBX := Lib.hid hBX
 have HAH := hd_shp HA1.out
 have HBH := hd_shp HB1.out
 clear b2 b3 hXs hH2 hH3 k3 k0 k1 hGX hX hM hBX hbX HAH HBH
 have p0 := blk_cell K.out 0
 have p1 := blk_cell K.out 1
 have p2 := blk_cell K.out 2
 have p3 := blk_cell K.out 3
 have p4 := blk_cell K.out 4
 have p5 := blk_cell K.out 5
 have q0 := blk_cell J.out 0
 have q1 := blk_cell J.out 1
 have q2 := blk_cell J.out 2
 have q3 := blk_cell J.out 3
 have q4 := blk_cell J.out 4
 have q5 := blk_cell J.out 5
 go_wp2_with fail
 rw [← HM.out, ← HX.out]
 refine C18.out.mono ?_
 rintro e w2 ⟨b2, rfl, hb2⟩
 have hb := HBX.out.trans (hb2.mono HBX.out.size)
 replace K := Lib.hid (blk_ov K.out hb)
 replace J := Lib.hid (blk_ov J.out hb)
 replace HB := Lib.hid (HB.out.trans (hb.mono HB.out.size))
 clear hb hb2 C18 HX HM HBX p0 q0 p1 q1 p2 q2 p3 q3 p4 q4 p5 q5
 cases b2
 ·go_wp2_with fail
  refine (known15b _).mono ?_
  rintro e wk ⟨rfl, hb⟩
  replace HB := Lib.hid (HB.out.trans (hb.mono HB.out.size))
  clear hb K J
  go_wp2_with fail
  go_ret
  exact ⟨rfl, HB.out⟩
 ·have p7 := blk_cell K.out 7
  have p8 := blk_cell K.out 8
  have p9 := blk_cell K.out 9
  have p10 := blk_cell K.out 10
  have C := Lib.hid (few19 G w2 [s0, s1, s2, s3] _ (Rp.below stb_stg HA3.out HG.out HB.out) (fun b h => Nat.lt_of_lt_of_le (HG.out b h) HB.out.size))
  go_wp2_with fail
  refine C.out.mono ?_
  rintro e w3 ⟨b2, rfl, hb⟩
  replace K := Lib.hid (blk_ov K.out hb)
  replace J := Lib.hid (blk_ov J.out hb)
  replace HB := Lib.hid (HB.out.trans (hb.mono HB.out.size))
  clear hb C p7 p8 p9 p10
  cases b2
  ·go_wp2_with fail
   refine (known15b _).mono ?_
   rintro e wk ⟨rfl, hb⟩
   replace HB := Lib.hid (HB.out.trans (hb.mono HB.out.size))
   clear hb K J
   go_wp2_with fail
   go_ret
   exact ⟨rfl, HB.out⟩
  ·have q7 := blk_cell J.out 7
   have q8 := blk_cell J.out 8
   have q9 := blk_cell J.out 9
   have q10 := blk_cell J.out 10
   have C := Lib.hid (few19 G w3 [t0, t1, t2, t3] _ (Rp.below stb_stg HB3.out HG.out HB.out) (fun b h => Nat.lt_of_lt_of_le (HG.out b h) HB.out.size))
   go_wp2_with fail
   refine C.out.mono ?_
   rintro e w4 ⟨b2, rfl, hb⟩
   replace K := Lib.hid (blk_ov K.out hb)
   replace J := Lib.hid (blk_ov J.out hb)
   replace HB := Lib.hid (HB.out.trans (hb.mono HB.out.size))
   clear hb C q7 q8 q9 q10
   cases b2
   ·go_wp2_with fail
    refine (known15b _).mono ?_
    rintro e wk ⟨rfl, hb⟩
    replace HB := Lib.hid (HB.out.trans (hb.mono HB.out.size))
    clear hb K J
    go_wp2_with fail
    go_ret
    exact ⟨rfl, HB.out⟩
   ·have p6 := blk_cell K.out 6
    by_cases hlrn : 40 < rn
    ·have g1 : decide ((40 : Int) < (rn : Int)) = true := by simp; omega
     have g2 : decide (40 < rn) = true := by simpa using hlrn
     clear hlrn
     go_wp2_with fail
     refine (known15b _).mono ?_
     rintro e wk ⟨rfl, hb⟩
     replace HB := Lib.hid (HB.out.trans (hb.mono HB.out.size))
     clear hb K J
     go_wp2_with fail
     go_ret
     exact ⟨rfl, HB.out⟩
    ·have g1 : decide ((40 : Int) < (rn : Int)) = false := by simp; omega
     have g2 : decide (40 < rn) = false := by simpa using hlrn
     clear hlrn
     have q6 := blk_cell J.out 6
     by_cases hlqn : 40 < qn
     ·have g1 : decide ((40 : Int) < (qn : Int)) = true := by simp; omega
      have g2 : decide (40 < qn) = true := by simpa using hlqn
      clear hlqn
      go_wp2_with fail
      refine (known15b _).mono ?_
      rintro e wk ⟨rfl, hb⟩
      replace HB := Lib.hid (HB.out.trans (hb.mono HB.out.size))
      clear hb K J
      go_wp2_with fail
      go_ret
      exact ⟨rfl, HB.out⟩
     ·have g1 : decide ((40 : Int) < (qn : Int)) = false := by simp; omega
      have g2 : decide (40 < qn) = false := by simpa using hlqn
      clear hlqn
      have p0 := blk_cell K.out 0
      have p1 := blk_cell K.out 1
      have p2 := blk_cell K.out 2
      have p3 := blk_cell K.out 3
      have p4 := blk_cell K.out 4
      have p5 := blk_cell K.out 5
      have p6 := blk_cell K.out 6
      have p7 := blk_cell K.out 7
      have p8 := blk_cell K.out 8
      have p9 := blk_cell K.out 9
      have p10 := blk_cell K.out 10
      have C := Lib.hid (check_doc n G w4 [.slice fA fn fc, h0, h1, h2, h3, h4, .slice rA rn rc, s0, s1, s2, s3] x (Rp.below (stb_dc n) HRX.out HG.out HB.out) (fun b h => Nat.lt_of_lt_of_le (HG.out b h) HB.out.size) (by have := HZX.out; omega))
      obtain ⟨Ex, hEx⟩ : ∃ E, E = chkD x := ⟨_, rfl⟩
      rw [← hEx] at C
      have HEx := Lib.hid hEx
      clear hEx
      go_wp2_with fail
      refine C.out.mono ?_
      rintro e w5 ⟨rfl, hb⟩
      replace K := Lib.hid (blk_ov K.out hb)
      replace J := Lib.hid (blk_ov J.out hb)
      replace HB := Lib.hid (HB.out.trans (hb.mono HB.out.size))
      clear hb C p0 p1 p2 p3 p4 p5 p6 p7 p8 p9 p10
      by_cases hcx : Ex = 0
      case neg =>
       have g5x : (Ex == 0) = false := by rw [beq_eq_false_iff_ne]; exact hcx
       have g6x : (Ex != 0) = true := by simp [bne, g5x]
       clear hcx
       go_wp2_with fail
       refine (known15b _).mono ?_
       rintro e wk ⟨rfl, hb⟩
       replace HB := Lib.hid (HB.out.trans (hb.mono HB.out.size))
       clear hb K J
       go_wp2_with fail
       go_ret
       exact ⟨rfl, HB.out⟩
      case pos =>
       subst hcx
       have q0 := blk_cell J.out 0
       have q1 := blk_cell J.out 1
       have q2 := blk_cell J.out 2
       have q3 := blk_cell J.out 3
       have q4 := blk_cell J.out 4
       have q5 := blk_cell J.out 5
       have q6 := blk_cell J.out 6
       have q7 := blk_cell J.out 7
       have q8 := blk_cell J.out 8
       have q9 := blk_cell J.out 9
       have q10 := blk_cell J.out 10
       have C := Lib.hid (check_doc n G w5 [.slice gA gn gc, j0, j1, j2, j3, j4, .slice qA qn qc, t0, t1, t2, t3] y (Rp.below (stb_dc n) HRY.out HG.out HB.out) (fun b h => Nat.lt_of_lt_of_le (HG.out b h) HB.out.size) (by have := HZY.out; omega))
       obtain ⟨Ey, hEy⟩ : ∃ E, E = chkD y := ⟨_, rfl⟩
       rw [← hEy] at C
       have HEy := Lib.hid hEy
       clear hEy
       go_wp2_with fail
       refine C.out.mono ?_
       rintro e w6 ⟨rfl, hb⟩
       replace K := Lib.hid (blk_ov K.out hb)
       replace J := Lib.hid (blk_ov J.out hb)
       replace HB := Lib.hid (HB.out.trans (hb.mono HB.out.size))
       clear hb C q0 q1 q2 q3 q4 q5 q6 q7 q8 q9 q10
       by_cases hcy : Ey = 0
       case neg =>
        have g5y : (Ey == 0) = false := by rw [beq_eq_false_iff_ne]; exact hcy
        have g6y : (Ey != 0) = true := by simp [bne, g5y]
        clear hcy
        go_wp2_with fail
        refine (known15b _).mono ?_
        rintro e wk ⟨rfl, hb⟩
        replace HB := Lib.hid (HB.out.trans (hb.mono HB.out.size))
        clear hb K J
        go_wp2_with fail
        go_ret
        exact ⟨rfl, HB.out⟩
       case pos =>
        subst hcy
        have C := Lib.hid (encode21 n G w6 [.slice fA fn fc, h0, h1, h2, h3, h4, .slice rA rn rc, s0, s1, s2, s3] x (Rp.below (stb_dc n) HRX.out HG.out HB.out) (fun b h => Nat.lt_of_lt_of_le (HG.out b h) HB.out.size) (by have := HZX.out; omega))
        unfold EncR at C
        rw [← HEx.out, if_pos rfl] at C
        obtain ⟨Sx, hSx⟩ : ∃ S, S = mkB (magic ++ dcE n x) := ⟨_, rfl⟩
        rw [← hSx] at C
        have HSx := Lib.hid hSx
        clear hSx
        go_upto_region 3 with fail
        refine wp_region_seq0 (by rfl) ?_
        simp only [List.map]
        refine sq_load_row 49 _ rfl N 49 #[.slice fA fn fc, h0, h1, h2, h3, h4, .slice rA rn rc, s0, s1, s2, s3] _ rfl K.out Tryz.underlying49 rfl size49 trivial ?_
        simp only [Act.put, PutA, PutZ, PutS]
        refine sq_call 21 #[.agg #[.slice fA fn fc, h0, h1, h2, h3, h4, .slice rA rn rc, s0, s1, s2, s3]] (by go_simp) ?_
        refine C.out.mono ?_
        rintro e w7 ⟨rfl, hb⟩
        replace K := Lib.hid (blk_ov K.out hb)
        replace J := Lib.hid (blk_ov J.out hb)
        replace HB := Lib.hid (HB.out.trans (hb.mono HB.out.size))
        clear hb C
        refine ⟨_, rfl, trivial, ?_⟩
        simp only [Act.put, PutA, PutZ, PutS]
        refine sq_pure (.tuple #[.string Sx, .int .i64 0]) (by go_simp) trivial ?_
        simp only [Act.put, PutA, PutZ, PutS]
        refine sq_pure (.string Sx) (by go_simp) trivial ?_
        simp only [Act.put, PutA, PutZ, PutS]
        refine sq_pure (.int .i64 0) (by go_simp) trivial ?_
        simp only [Act.put, PutA, PutZ, PutS]
        refine sq_pure (.string Sx) (by go_simp) trivial ?_
        simp only [Act.put, PutA, PutZ, PutS]
        refine sq_pure (.int .i64 0) (by go_simp) trivial ?_
        simp only [Act.put, PutA, PutZ, PutS]
        refine sq_done ?_
        have C := Lib.hid (encode21 n G w7 [.slice gA gn gc, j0, j1, j2, j3, j4, .slice qA qn qc, t0, t1, t2, t3] y (Rp.below (stb_dc n) HRY.out HG.out HB.out) (fun b h => Nat.lt_of_lt_of_le (HG.out b h) HB.out.size) (by have := HZY.out; omega))
        unfold EncR at C
        rw [← HEy.out, if_pos rfl] at C
        obtain ⟨Sy, hSy⟩ : ∃ S, S = mkB (magic ++ dcE n y) := ⟨_, rfl⟩
        rw [← hSy] at C
        have HSy := Lib.hid hSy
        clear hSy
        go_upto_region 4 with fail
        refine wp_region_seq0 (by rfl) ?_
        simp only [List.map]
        refine sq_load_row 49 _ rfl (N + 1) 49 #[.slice gA gn gc, j0, j1, j2, j3, j4, .slice qA qn qc, t0, t1, t2, t3] _ rfl J.out Tryz.underlying49 rfl size49 trivial ?_
        simp only [Act.put, PutA, PutZ, PutS]
        refine sq_call 21 #[.agg #[.slice gA gn gc, j0, j1, j2, j3, j4, .slice qA qn qc, t0, t1, t2, t3]] (by go_simp) ?_
        refine C.out.mono ?_
        rintro e w8 ⟨rfl, hb⟩
        replace K := Lib.hid (blk_ov K.out hb)
        replace J := Lib.hid (blk_ov J.out hb)
        replace HB := Lib.hid (HB.out.trans (hb.mono HB.out.size))
        clear hb C
        refine ⟨_, rfl, trivial, ?_⟩
        simp only [Act.put, PutA, PutZ, PutS]
        refine sq_pure (.tuple #[.string Sy, .int .i64 0]) (by go_simp) trivial ?_
        simp only [Act.put, PutA, PutZ, PutS]
        refine sq_pure (.string Sy) (by go_simp) trivial ?_
        simp only [Act.put, PutA, PutZ, PutS]
        refine sq_pure (.int .i64 0) (by go_simp) trivial ?_
        simp only [Act.put, PutA, PutZ, PutS]
        refine sq_pure (.string Sy) (by go_simp) trivial ?_
        simp only [Act.put, PutA, PutZ, PutS]
        refine sq_pure (.int .i64 0) (by go_simp) trivial ?_
        simp only [Act.put, PutA, PutZ, PutS]
        refine sq_done ?_
        have C := Lib.hid (eq22 n G w8 [.slice fA fn fc, h0, h1, h2, h3, h4, .slice rA rn rc, s0, s1, s2, s3] [.slice gA gn gc, j0, j1, j2, j3, j4, .slice qA qn qc, t0, t1, t2, t3] x y (Rp.below (stb_dc n) HRX.out HG.out HB.out) (Rp.below (stb_dc n) HRY.out HG.out HB.out) rfl rfl (fun b h => Nat.lt_of_lt_of_le (HG.out b h) HB.out.size))
        have p0 := blk_cell K.out 0
        have p1 := blk_cell K.out 1
        have p2 := blk_cell K.out 2
        have p3 := blk_cell K.out 3
        have p4 := blk_cell K.out 4
        have p5 := blk_cell K.out 5
        have p6 := blk_cell K.out 6
        have p7 := blk_cell K.out 7
        have p8 := blk_cell K.out 8
        have p9 := blk_cell K.out 9
        have p10 := blk_cell K.out 10
        have q0 := blk_cell J.out 0
        have q1 := blk_cell J.out 1
        have q2 := blk_cell J.out 2
        have q3 := blk_cell J.out 3
        have q4 := blk_cell J.out 4
        have q5 := blk_cell J.out 5
        have q6 := blk_cell J.out 6
        have q7 := blk_cell J.out 7
        have q8 := blk_cell J.out 8
        have q9 := blk_cell J.out 9
        have q10 := blk_cell J.out 10
        by_cases hxy : x = y
        case pos =>
         have hS : Sy = Sx := by rw [HSy.out, HSx.out, hxy]
         have HXY := Lib.hid hxy
         subst hS
         clear hxy HSy HSx
         go_wp2_with fail
         refine C.out.mono ?_
         rintro e w9 ⟨r, rfl, hr, hb⟩
         replace K := Lib.hid (blk_ov K.out hb)
         replace J := Lib.hid (blk_ov J.out hb)
         replace HB := Lib.hid (HB.out.trans (hb.mono HB.out.size))
         clear hb C p0 q0 p1 q1 p2 q2 p3 q3 p4 q4 p5 q5 p6 q6 p7 q7 p8 q8 p9 q9 p10 q10
         have hrt : r = true := hr.2 HXY.out
         subst hrt
         clear hr K J
         go_wp2_with fail
         go_ret
         exact ⟨rfl, HB.out⟩
        case neg =>
         have hS : Sx ≠ Sy := fun e => hxy (dc_str HDX.out HDY.out (by rw [← HSx.out, ← HSy.out, e]))
         have g1 := beqS_ne hS
         have g2 := beqS_ne' hS
         have HXY := Lib.hid hxy
         clear hxy hS
         go_wp2_with fail
         refine C.out.mono ?_
         rintro e w9 ⟨r, rfl, hr, hb⟩
         replace K := Lib.hid (blk_ov K.out hb)
         replace J := Lib.hid (blk_ov J.out hb)
         replace HB := Lib.hid (HB.out.trans (hb.mono HB.out.size))
         clear hb C p0 q0 p1 q1 p2 q2 p3 q3 p4 q4 p5 q5 p6 q6 p7 q7 p8 q8 p9 q9 p10 q10
         have hrt : r = false := by
          cases r
          ·rfl
          ·exact absurd (hr.1 rfl) HXY.out
         subst hrt
         clear hr K J
         go_wp2_with fail
         go_ret
         exact ⟨rfl, HB.out⟩
end Go.Proofs.YtmhhcfceikcfbaaGreat
