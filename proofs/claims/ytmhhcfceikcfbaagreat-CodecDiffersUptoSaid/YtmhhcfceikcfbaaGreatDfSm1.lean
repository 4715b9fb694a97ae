/- Walks: the weights of arguments (only that they return). -/
import Derived.BigQuiet
import Derived.Test.YtmhhcfceikcfbaaGreatDfL2
import Derived.Test.YtmhhcfceikcfbaaGreatDfW8
namespace Go.Proofs.YtmhhcfceikcfbaaGreat
open Go.RowKit
def BoolC (w : World) (e : Ending) (w' : World) : Prop := ∃ b, e = .returned (.bool b) ∧ Below w.heap.size w w'
def TwoC (w : World) (e : Ending) (w' : World) : Prop := ∃ a b : Int, e = .returned (.tuple #[.int .i64 a, .int .i64 b]) ∧ Below w.heap.size w w'
/-- Weighing items, to a depth. -/
def WeiS {α : Type} (R : Rp α) : Prop := ∀ (G : Nat → Prop) (w : World) (v : Value) (l : List α), Slv R 11 w G v l → (∀ b, G b → b < w.heap.size) → Calls Tryz.prog 45 #[v] w (TwoC w)
theorem hd_shp {w : World} {G : Nat → Prop} {h0 h1 h2 h3 h4 : Value} {x : Hd} (h : hdP w G [h0, h1, h2, h3, h4] x) : ∃ A0 c0 A3 c3 A4 c4 n0 n3 n4 y1 y2, h0 = .slice A0 n0 c0 ∧ h1 = .int .i64 y1 ∧ h2 = .int .i64 y2 ∧ h3 = .slice A3 n3 c3 ∧ h4 = .slice A4 n4 c4 := by
 obtain ⟨pv, dv, lv, e, _, _, h1, h2, h3⟩ := h
 obtain ⟨A0, c0, rfl, _, _⟩ := h1.shape
 obtain ⟨A3, c3, rfl, _, _⟩ := h2.shape
 obtain ⟨A4, c4, rfl, _, _⟩ := h3.shape
 simp only [List.cons.injEq] at e
 obtain ⟨rfl, rfl, rfl, rfl, rfl, _⟩ := e
 exact ⟨A0, c0, A3, c3, A4, c4, _, _, _, _, _, rfl, rfl, rfl, rfl, rfl⟩
set_option maxRecDepth 100000 in
set_option maxHeartbeats 4000000 in
theorem weight_step {α : Type} (R : Rp α) (hR : Stb R) (HI : WeiS R) : WeiS (isP R) := by
 intro G w v l hv hG
 obtain ⟨A, cp, hsl, hlc, hcm⟩ := hv.shape
 subst hsl
 obtain ⟨n, hn⟩ : ∃ n, n = l.length := ⟨_, rfl⟩
 unfold maxLen at hcm
 have HV := Lib.hid hv
 rw [← hn]
 have HN := Lib.hid hn
 have HG := Lib.hid hG
 have hnn : n ≤ 9223372036854775807 := by omega
 clear hv hlc hn hG
 go_enter Tryz.func45, Tryz.ntmps45
 go_wp2_with fail
 go_loopw [2, 3, 4] (fun mv dv iv wr => ∃ (m d : Int) (i : Nat), mv = .int .i64 m ∧ dv = .int .i64 d ∧ iv = .int .i64 (i : Int) ∧ i ≤ n ∧ Hid (Below w.heap.size w wr)) (fun _ _ iv _ => n - (intOf iv).toNat)
 case atStart => exact ⟨_, _, 0, rfl, rfl, rfl, Nat.zero_le _, Lib.hid (Below.refl _ _)⟩
 case round =>
  obtain ⟨m, d, i, rfl, rfl, rfl, hin, HB⟩ := hrel
  by_cases hlt : i < n
  ·have hlt' : (i : Int) < (n : Int) := by omega
   by_cases hm : m < 5000
   ·obtain ⟨x, hx⟩ : ∃ x, l[i]? = some x := ⟨_, List.getElem?_eq_getElem (by rw [← HN.out]; exact hlt)⟩
    obtain ⟨b, o, vs, rfl, hgb, hbw0, hvl, hRx, hcs⟩ := HV.out.at i x hx
    have hE : EltS b (o + i * 11) vs wr := EltS.below (w := w) hcs hbw0 HB.out
    have hbw : b < wr.heap.size := Nat.lt_of_lt_of_le hbw0 HB.out.size
    obtain ⟨h0, h1x, h2, h3, h4, fv, rv, rfl, ⟨hx1, hx2, hx3, hx4⟩, hH, hF, hR2⟩ := hRx
    obtain ⟨A0, c0, A3, c3, A4, c4, n0, n3, n4, y1, y2, rfl, rfl, rfl, rfl, rfl⟩ := hd_shp hH
    obtain ⟨rA, rc, rfl, rl1, rl2⟩ := hR2.shape
    obtain ⟨rn, hrn⟩ : ∃ n, n = x.2.2.2.2.2.2.length := ⟨_, rfl⟩
    unfold maxLen at rl2
    have HR2 := Lib.hid hR2
    have HRN := Lib.hid hrn
    rw [← hrn] at hE rl1
    have hrn2 : rn ≤ 9223372036854775807 := by omega
    have HE := Lib.hid hE
    have e3 := hE 3 _ rfl
    have e4 := hE 4 _ rfl
    have e7 := hE 7 _ rfl
    have e8 := hE 8 _ rfl
    clear hR2 hrn rl1 rl2 hH hcs hx hx1 hx2 hx3 hx4 hvl hE
    go_upto_region 5 with fail
    go_quiet (fail)
    generalize wrap64 (wrap64 (wrap64 (wrap64 (m + ↑n0) + ↑n3) + ↑n4) + wrap64 (↑x.2.2.2.1.size / 20)) = m1
    clear e3 e4 e7 e8
    obtain ⟨w1, hw1⟩ : ∃ W, W = wr.drewN nq := ⟨_, rfl⟩
    rw [← hw1]
    replace HB := Lib.hid (show Below w.heap.size w w1 by rw [hw1]; exact below_drewN HB.out nq)
    replace HE := Lib.hid (show EltS b (o + i * 11) _ w1 by rw [hw1]; exact HE.out)
    have hbw1 : b < w1.heap.size := by rw [hw1]; exact hbw
    have e9 := HE.out 9 _ rfl
    have CF : Hid (∀ (W : World), Below w.heap.size w W → Calls Tryz.prog 45 #[fv] W (TwoC W)) := Lib.hid (fun W hW => HI G W fv _ (hF.below hR HG.out hW) (fun b h => Nat.lt_of_lt_of_le (HG.out b h) hW.size))
    clear hw1 hF hbw
    go_wp2_with fail
    refine (CF.out _ HB.out).mono ?_
    rintro e w2 ⟨a1, b1, rfl, hb2⟩
    clear e9 CF
    replace HE := Lib.hid (HE.out.below hbw1 hb2)
    have hbw2 := Nat.lt_of_lt_of_le hbw1 hb2.size
    replace HB := Lib.hid (HB.out.trans (hb2.mono HB.out.size))
    clear hb2 hbw1
    obtain ⟨m2, hm2⟩ : ∃ M, wrap64 (m1 + a1) = M := ⟨_, rfl⟩
    obtain ⟨d1, hd1⟩ : ∃ D, wrap64 (b1 + 1) = D := ⟨_, rfl⟩
    obtain ⟨d2, hd2⟩ : ∃ D, (if d < d1 then d1 else d) = D := ⟨_, rfl⟩
    go_wp2_with fail
    clear hm2 hd1 hd2
    go_loopw [2, 3, 7] (fun mv dv iv wr => ∃ (m d : Int) (k : Nat), mv = .int .i64 m ∧ dv = .int .i64 d ∧ iv = .int .i64 (k : Int) ∧ k ≤ rn ∧ Hid (Below w2.heap.size w2 wr)) (fun _ _ iv _ => rn - (intOf iv).toNat)
    case atStart => exact ⟨_, _, 0, rfl, rfl, rfl, Nat.zero_le _, Lib.hid (Below.refl _ _)⟩
    case round =>
     rename World => wq
     obtain ⟨m3, d3, k, rfl, rfl, rfl, hkn, HBq⟩ := hrel
     have HE2 := Lib.hid (HE.out.below hbw2 HBq.out)
     have hBW := Lib.hid (HB.out.trans (HBq.out.mono HB.out.size))
     have hsq : w2.heap.size ≤ wq.heap.size := HBq.out.size
     have e10 := HE2.out 10 _ rfl
     by_cases hklt : k < rn
     ·have hklt' : (k : Int) < (rn : Int) := by omega
      by_cases hm3 : m3 < 5000
      ·obtain ⟨y, hy⟩ : ∃ y, x.2.2.2.2.2.2[k]? = some y := ⟨_, List.getElem?_eq_getElem (by rw [← HRN.out]; exact hklt)⟩
       obtain ⟨rb, ro, rvs, rfl, hrgb, hrbw0, hrvl, hRy, hrcs⟩ := HR2.out.at k y hy
       have hrE : EltS rb (ro + k * 6) rvs wq := EltS.below (w := w) hrcs hrbw0 hBW.out
       obtain ⟨r0, r1, r2, r3, r4, cv, rfl, hrH, hC⟩ := hRy
       obtain ⟨A5, c5, A8, c8, A9, c9, n5, n8, n9, i1, i2, rfl, rfl, rfl, rfl, rfl⟩ := hd_shp hrH
       obtain ⟨cA, cc, rfl, cl1, cl2⟩ := hC.shape
       obtain ⟨cn, hcn⟩ : ∃ n, n = y.2.length := ⟨_, rfl⟩
       unfold maxLen at cl2
       have HC := Lib.hid hC
       have HCN := Lib.hid hcn
       rw [← hcn] at hrE cl1
       have hcn2 : cn ≤ 9223372036854775807 := by omega
       have z0 := hrE 0 _ rfl
       simp only [Nat.add_zero] at z0
       have z1 := hrE 1 _ rfl
       have z2 := hrE 2 _ rfl
       have z3 := hrE 3 _ rfl
       have z4 := hrE 4 _ rfl
       have z5 := hrE 5 _ rfl
       clear hC hcn cl1 cl2 hrH hrcs hy hrvl hrE
       obtain ⟨m4, hm4⟩ : ∃ M, wrap64 (wrap64 (wrap64 (wrap64 (m3 + 1) + (n5 : Int)) + (n8 : Int)) + (n9 : Int)) = M := ⟨_, rfl⟩
       obtain ⟨g, hg⟩ : ∃ g, g = wq.heap.size := ⟨_, rfl⟩
       go_wp2_with fail
       clear z0 z1 z2 z3 z4 z5 hm4
       obtain ⟨W3, hW3⟩ : ∃ W, W = wq.alloc (.cells #[.slice A5 n5 c5, .int .i64 i1, .int .i64 i2, .slice A8 n8 c8, .slice A9 n9 c9, .slice cA cn cc] 156) := ⟨_, rfl⟩
       have hb3 : W3.heap[g]? = some (.cells #[.slice A5 n5 c5, .int .i64 i1, .int .i64 i2, .slice A8 n8 c8, .slice A9 n9 c9, .slice cA cn cc] 156 (0, 0)) := by rw [hW3]; exact heap_alloc_new' _ _ hg
       have hB3 : Below wq.heap.size wq W3 := by rw [hW3]; exact (Below.refl _ _).alloc (Nat.le_refl _) _
       rw [← hW3, ← hg]
       have HB3 := Lib.hid hB3
       rw [← hg] at hB3
       clear hW3
       have HBX := Lib.hid (hBW.out.trans (hB3.mono (by have := hBW.out.size; omega)))
       have hgW : g < W3.heap.size := lt_of_blk hb3
       have hwg : w.heap.size ≤ g := by have := hBW.out.size; omega
       have Hb3 := Lib.hid hb3
       have HGq := Lib.hid hg
       clear hb3 hB3 hg
       go_loopw [2, 3, 9] (fun mv dv iv wr => ∃ (m d : Int) (j : Nat), mv = .int .i64 m ∧ dv = .int .i64 d ∧ iv = .int .i64 (j : Int) ∧ j ≤ cn ∧ Hid (Below W3.heap.size W3 wr)) (fun _ _ iv _ => cn - (intOf iv).toNat)
       case atStart => exact ⟨_, _, 0, rfl, rfl, rfl, Nat.zero_le _, Lib.hid (Below.refl _ _)⟩
       case round =>
        rename World => ws
        obtain ⟨m5, d5, j, rfl, rfl, rfl, hjn, HBs⟩ := hrel
        have Hbs := Lib.hid ((HBs.out.block _ hgW).trans Hb3.out)
        have hBS := Lib.hid (HBX.out.trans (HBs.out.mono HBX.out.size))
        have f0 := blk_cell Hbs.out 0
        have f1 := blk_cell Hbs.out 1
        have f2 := blk_cell Hbs.out 2
        have f3 := blk_cell Hbs.out 3
        have f4 := blk_cell Hbs.out 4
        have f5 := blk_cell Hbs.out 5
        by_cases hjlt : j < cn
        ·have hjlt' : (j : Int) < (cn : Int) := by omega
         by_cases hm5 : m5 < 5000
         ·obtain ⟨z, hz⟩ : ∃ z, y.2[j]? = some z := ⟨_, List.getElem?_eq_getElem (by rw [← HCN.out]; exact hjlt)⟩
          obtain ⟨cb, co, cvs, rfl, hcgb, hcbw0, hcvl, hRz, hccs⟩ := HC.out.at j z hz
          have hcE : EltS cb (co + j * 7) cvs ws := EltS.below (w := w) hccs hcbw0 hBS.out
          obtain ⟨k0, k1, k2, k3, k4, fv2, rfl, hz1, hzH, hzF⟩ := hRz
          obtain ⟨B1, e1, B4, e4, B5, e5, p1, p4, p5, j1, j2, rfl, rfl, rfl, rfl, rfl⟩ := hd_shp hzH
          have CF : Hid (∀ (W : World), Below w.heap.size w W → Calls Tryz.prog 45 #[fv2] W (TwoC W)) := Lib.hid (fun W hW => HI G W fv2 _ (hzF.below hR HG.out hW) (fun b h => Nat.lt_of_lt_of_le (HG.out b h) hW.size))
          have HCE := Lib.hid hcE
          have c6 := hcE 6 _ rfl
          have hcb : cb < ws.heap.size := Nat.lt_of_lt_of_le hcbw0 hBS.out.size
          clear hccs hz hcvl hz1 hzH hzF hcE
          go_wp2_with fail
          refine (CF.out _ hBS.out).mono ?_
          rintro e w5 ⟨a5, b5, rfl, hb5⟩
          clear CF c6 f0 f1 f2 f3 f4 f5
          replace HCE := Lib.hid (HCE.out.below hcb hb5)
          replace Hbs := Lib.hid ((hb5.block _ (by have := HBs.out.size; omega)).trans Hbs.out)
          replace HBs := Lib.hid (HBs.out.trans (hb5.mono HBs.out.size))
          clear hb5 hBS hcb
          have f5 := blk_cell Hbs.out 5
          have q1 := HCE.out 1 _ rfl
          have q4 := HCE.out 4 _ rfl
          have q5 := HCE.out 5 _ rfl
          obtain ⟨D5, hD5⟩ : ∃ D, wrap64 (b5 + 1) = D := ⟨_, rfl⟩
          obtain ⟨E5, hE5⟩ : ∃ D, (if d5 < D5 then D5 else d5) = D := ⟨_, rfl⟩
          go_upto_region 17 with fail
          go_quiet (fail)
          clear f5 q1 q4 q5 hD5 hE5
          obtain ⟨w6, hw6⟩ : ∃ W, W = w5.drewN nq := ⟨_, rfl⟩
          rw [← hw6]
          replace HBs := Lib.hid (show Below W3.heap.size W3 w6 by rw [hw6]; exact below_drewN HBs.out nq)
          clear hw6 Hbs HCE
          go_wp2_with fail
          exact ⟨⟨_, _, j + 1, rfl, rfl, by go_num, by omega, HBs⟩, by simp [intOf]; omega⟩
         ·go_wp2_with fail
          exact ⟨⟨_, _, k + 1, rfl, rfl, by go_num, by omega, Lib.hid (HBq.out.trans ((Below.trans HB3.out (HBs.out.mono (by have := HB3.out.size; omega))).mono HBq.out.size))⟩, by simp [intOf]; omega⟩
        ·go_wp2_with fail
         exact ⟨⟨_, _, k + 1, rfl, rfl, by go_num, by omega, Lib.hid (HBq.out.trans ((Below.trans HB3.out (HBs.out.mono (by have := HB3.out.size; omega))).mono HBq.out.size))⟩, by simp [intOf]; omega⟩
      ·go_wp2_with fail
       exact ⟨⟨_, _, i + 1, rfl, rfl, by go_num, by omega, hBW⟩, by simp [intOf]; omega⟩
     ·go_wp2_with fail
      exact ⟨⟨_, _, i + 1, rfl, rfl, by go_num, by omega, hBW⟩, by simp [intOf]; omega⟩
   ·go_wp2_with fail
    go_ret2
    exact ⟨m, d, rfl, HB.out⟩
  ·go_wp2_with fail
   go_ret2
   exact ⟨m, d, rfl, HB.out⟩
set_option maxRecDepth 100000 in
set_option maxHeartbeats 1000000 in
theorem weight_none (w : World) (A : Option Addr) (cp : Nat) : Calls Tryz.prog 45 #[.slice A 0 cp] w (TwoC w) := by
 go_enter Tryz.func45, Tryz.ntmps45
 go_wp2_with fail
 go_loopw [2, 3, 4] (fun mv dv iv wr => mv = .int .i64 0 ∧ dv = .int .i64 1 ∧ iv = .int .i64 0 ∧ wr = w) (fun _ _ _ _ => 0)
 case atStart => exact ⟨rfl, rfl, rfl, rfl⟩
 case round =>
  obtain ⟨rfl, rfl, rfl, hw⟩ := hrel
  subst hw
  go_wp2_with fail
  go_ret2
  exact ⟨0, 1, rfl, Below.refl _ _⟩
theorem weight_any : ∀ n, WeiS (itP n)
 | 0 => fun G w v l hv hG => by
  have e : l = [] := by
   cases l with
   | nil => rfl
   | cons x _ => exact Empty.elim x
  subst e
  obtain ⟨A, cp, hsl, _, _⟩ := hv.shape
  subst hsl
  exact weight_none w A cp
 | n + 1 => weight_step (itP n) (stb_it n) (weight_any n)
set_option maxRecDepth 100000 in
set_option maxHeartbeats 1000000 in
theorem small18 (w0 w : World) (vals : List Value) (b o c : Nat) (hc : EltS b o vals w) (hn : vals.length ≤ 1000) (hb : b < w.heap.size) (hB : Below w0.heap.size w0 w) (hC : ∀ v ∈ vals, ∀ W, Below w0.heap.size w0 W → Calls Tryz.prog 45 #[v] W (TwoC W)) :
  Calls Tryz.prog 18 #[.slice (some ⟨b, o, none⟩) vals.length c] w (BoolC w) := by
 obtain ⟨n, hn'⟩ : ∃ n, n = vals.length := ⟨_, rfl⟩
 rw [← hn'] at hn ⊢
 have HN := Lib.hid hn'
 have HC := Lib.hid hC
 have HE := Lib.hid hc
 have HB := Lib.hid hB
 clear hn' hC hc hB
 go_enter Tryz.func18, Tryz.ntmps18
 go_wp2_with fail
 go_loopw [3] (fun iv wr => ∃ i : Nat, iv = .int .i64 (i : Int) ∧ i ≤ n ∧ Hid (Below w.heap.size w wr)) (fun iv _ => n - (intOf iv).toNat)
 case atStart => exact ⟨0, rfl, Nat.zero_le _, Lib.hid (Below.refl _ _)⟩
 case round =>
  obtain ⟨i, rfl, hin, HW⟩ := hrel
  by_cases hlt : i < n
  ·have hlt' : (i : Int) < (n : Int) := by omega
   obtain ⟨x, hx⟩ : ∃ x, vals[i]? = some x := ⟨_, List.getElem?_eq_getElem (by rw [← HN.out]; exact hlt)⟩
   have hE := (HE.out.below hb HW.out) i x hx
   have HF := Lib.hid (HC.out x (List.mem_of_getElem? hx) wr (HB.out.trans (HW.out.mono HB.out.size)))
   clear hx
   go_wp2_with fail
   refine HF.out.mono ?_
   rintro e w2 ⟨a, d, rfl, hb2⟩
   have HW2 := Lib.hid (HW.out.trans (hb2.mono HW.out.size))
   clear HF hE hb2 HW
   by_cases h1 : a > 300
   ·go_wp2_with fail
    go_ret
    exact ⟨_, rfl, HW2.out⟩
   ·by_cases h2 : d > 6
    ·go_wp2_with fail
     go_ret
     exact ⟨_, rfl, HW2.out⟩
    ·go_wp2_with fail
     exact ⟨⟨i + 1, by go_num, by omega, HW2⟩, by simp [intOf]; omega⟩
  ·go_wp2_with fail
   go_ret
   exact ⟨_, rfl, HW.out⟩
end Go.Proofs.YtmhhcfceikcfbaaGreat
namespace Go.Proofs.YtmhhcfceikcfbaaGreat
open Go.RowKit
set_option maxRecDepth 100000 in
set_option maxHeartbeats 4000000 in
theorem few19 (G : Nat → Prop) (w : World) (vs : List Value) (x : Stg) (hR : stgP w G vs x) (_hG : ∀ b, G b → b < w.heap.size) : Calls Tryz.prog 19 #[.agg vs.toArray] w (BoolC w) := by
 obtain ⟨v0, v1, v2, v3, rfl, h0, h1, h2, h3⟩ := hR
 obtain ⟨A0, c0, rfl, l0, m0⟩ := h0.shape
 obtain ⟨n0, hn0⟩ : ∃ n, n = x.1.length := ⟨_, rfl⟩
 unfold maxLen at m0
 have H0 := Lib.hid h0
 have HN0 := Lib.hid hn0
 rw [← hn0]
 have r0 : n0 ≤ 9223372036854775807 := by omega
 clear h0 hn0 l0 m0
 obtain ⟨A1, c1, rfl, l1, m1⟩ := h1.shape
 obtain ⟨n1, hn1⟩ : ∃ n, n = x.2.1.length := ⟨_, rfl⟩
 unfold maxLen at m1
 have H1 := Lib.hid h1
 have HN1 := Lib.hid hn1
 rw [← hn1]
 have r1 : n1 ≤ 9223372036854775807 := by omega
 clear h1 hn1 l1 m1
 obtain ⟨A2, c2, rfl, l2, m2⟩ := h2.shape
 obtain ⟨n2, hn2⟩ : ∃ n, n = x.2.2.1.length := ⟨_, rfl⟩
 unfold maxLen at m2
 have H2 := Lib.hid h2
 have HN2 := Lib.hid hn2
 rw [← hn2]
 have r2 : n2 ≤ 9223372036854775807 := by omega
 clear h2 hn2 l2 m2
 obtain ⟨A3, c3, rfl, l3, m3⟩ := h3.shape
 obtain ⟨n3, hn3⟩ : ∃ n, n = x.2.2.2.length := ⟨_, rfl⟩
 unfold maxLen at m3
 have H3 := Lib.hid h3
 have HN3 := Lib.hid hn3
 rw [← hn3]
 have r3 : n3 ≤ 9223372036854775807 := by omega
 clear h3 hn3 l3 m3
 obtain ⟨g, hg⟩ : ∃ g, g = w.heap.size := ⟨_, rfl⟩
 obtain ⟨W, hW⟩ : ∃ W, W = w.alloc (.cells #[.slice A0 n0 c0, .slice A1 n1 c1, .slice A2 n2 c2, .slice A3 n3 c3] 47) := ⟨_, rfl⟩
 have hb : W.heap[g]? = some (.cells #[.slice A0 n0 c0, .slice A1 n1 c1, .slice A2 n2 c2, .slice A3 n3 c3] 47 (0, 0)) := by rw [hW]; exact heap_alloc_new' _ _ hg
 have HB : Hid (Below w.heap.size w W) := Lib.hid (by rw [hW]; exact (Below.refl _ _).alloc (Nat.le_refl _) _)
 have HW := Lib.hid hW
 have HGq := Lib.hid hg
 have p0 := blk_cell hb 0
 have p1 := blk_cell hb 1
 have p2 := blk_cell hb 2
 have p3 := blk_cell hb 3
 clear hW hb hg
 go_enter Tryz.func19, Tryz.ntmps19
 go_upto_region 1 with fail
 rw [← HW.out, ← HGq.out]
 clear HW HGq
 by_cases qn0 : n0 > 40
 ·have qn0' : (n0 : Int) > 40 := by omega
  go_wp2_with fail
  go_ret
  exact ⟨_, rfl, HB.out⟩
 ·have qn0' : ¬ (n0 : Int) > 40 := by omega
  by_cases qn1 : n1 > 40
  ·have qn1' : (n1 : Int) > 40 := by omega
   go_wp2_with fail
   go_ret
   exact ⟨_, rfl, HB.out⟩
  ·have qn1' : ¬ (n1 : Int) > 40 := by omega
   by_cases qn2 : n2 > 40
   ·have qn2' : (n2 : Int) > 40 := by omega
    go_wp2_with fail
    go_ret
    exact ⟨_, rfl, HB.out⟩
   ·have qn2' : ¬ (n2 : Int) > 40 := by omega
    by_cases qn3 : n3 > 40
    ·have qn3' : (n3 : Int) > 40 := by omega
     go_wp2_with fail
     go_ret
     exact ⟨_, rfl, HB.out⟩
    ·have qn3' : ¬ (n3 : Int) > 40 := by omega
     go_wp2_with fail
     go_loop [3] (fun iv => ∃ i : Nat, iv = .int .i64 (i : Int) ∧ i ≤ n0) (fun iv => n0 - (intOf iv).toNat)
     case atStart => exact ⟨0, rfl, Nat.zero_le _⟩
     case round =>
      obtain ⟨i, rfl, hin⟩ := hrel
      by_cases hlt : i < n0
      ·have hlt' : (i : Int) < (n0 : Int) := by omega
       obtain ⟨y, hy⟩ : ∃ y, x.1[i]? = some y := ⟨_, List.getElem?_eq_getElem (by rw [← HN0.out]; exact hlt)⟩
       obtain ⟨b, o, vs, rfl, hgb, hbw, hvl, hRx, hcs⟩ := H0.out.at i y hy
       have hE : EltS b (o + i * 6) vs W := EltS.below (w := w) hcs hbw HB.out
       obtain ⟨pv, rfl, _, hl⟩ := hRx
       obtain ⟨lA, lc, rfl, ll1, ll2⟩ := hl.shape
       obtain ⟨t1, ht1⟩ : ∃ t, t = y.2.2.2.2.2.length := ⟨_, rfl⟩
       rw [← ht1] at hE
       obtain ⟨s1, hs1⟩ : ∃ s, s = y.2.2.1 := ⟨_, rfl⟩
       rw [← hs1] at hE
       clear hs1
       clear ht1 hl ll1 ll2
       have e2 := hE 2 _ rfl
       have e5 := hE 5 _ rfl
       clear hcs hy hvl hE
       by_cases qs1 : s1.size > 300
       ·have qs1' : (s1.size : Int) > 300 := by omega
        go_wp2_with fail
        go_ret
        exact ⟨_, rfl, HB.out⟩
       ·have qs1' : ¬ (s1.size : Int) > 300 := by omega
        by_cases qt1 : t1 > 20
        ·have qt1' : (t1 : Int) > 20 := by omega
         go_wp2_with fail
         go_ret
         exact ⟨_, rfl, HB.out⟩
        ·have qt1' : ¬ (t1 : Int) > 20 := by omega
         go_wp2_with fail
         exact ⟨⟨i + 1, by go_num, by omega⟩, by simp [intOf]; omega⟩
      ·have hlt' : ¬ (i : Int) < (n0 : Int) := by omega
       go_wp2_with fail
       go_loop [4] (fun iv => ∃ i : Nat, iv = .int .i64 (i : Int) ∧ i ≤ n1) (fun iv => n1 - (intOf iv).toNat)
       case atStart => exact ⟨0, rfl, Nat.zero_le _⟩
       case round =>
        obtain ⟨i, rfl, hin⟩ := hrel
        by_cases hlt : i < n1
        ·have hlt' : (i : Int) < (n1 : Int) := by omega
         obtain ⟨y, hy⟩ : ∃ y, x.2.1[i]? = some y := ⟨_, List.getElem?_eq_getElem (by rw [← HN1.out]; exact hlt)⟩
         obtain ⟨b, o, vs, rfl, hgb, hbw, hvl, hRx, hcs⟩ := H1.out.at i y hy
         have hE : EltS b (o + i * 2) vs W := EltS.below (w := w) hcs hbw HB.out
         obtain ⟨lv, rfl, _, hl⟩ := hRx
         obtain ⟨lA, lc, rfl, ll1, ll2⟩ := hl.shape
         obtain ⟨t1, ht1⟩ : ∃ t, t = y.2.length := ⟨_, rfl⟩
         unfold maxLen at ll2
         have HL := Lib.hid hl
         have HT := Lib.hid ht1
         rw [← ht1] at hE ll1
         have ht2 : t1 ≤ 9223372036854775807 := by omega
         clear ht1 hl ll1 ll2
         have e1 := hE 1 _ rfl
         clear hcs hy hvl hE
         by_cases qt1 : t1 > 20
         ·have qt1' : (t1 : Int) > 20 := by omega
          go_wp2_with fail
          go_ret
          exact ⟨_, rfl, HB.out⟩
         ·have qt1' : ¬ (t1 : Int) > 20 := by omega
          go_wp2_with fail
          go_loop [5] (fun jv => ∃ j : Nat, jv = .int .i64 (j : Int) ∧ j ≤ t1) (fun jv => t1 - (intOf jv).toNat)
          case atStart => exact ⟨0, rfl, Nat.zero_le _⟩
          case round =>
           obtain ⟨j, rfl, hjn⟩ := hrel
           by_cases hjl : j < t1
           ·have hjl' : (j : Int) < (t1 : Int) := by omega
            obtain ⟨z, hz⟩ : ∃ z, y.2[j]? = some z := ⟨_, List.getElem?_eq_getElem (by rw [← HT.out]; exact hjl)⟩
            obtain ⟨b2, o2, vs2, rfl, hgb2, hbw2, hvl2, hRz, hcs2⟩ := HL.out.at j z hz
            have hE2 : EltS b2 (o2 + j * 4) vs2 W := EltS.below (w := w) hcs2 hbw2 HB.out
            obtain ⟨rfl, _⟩ := hRz
            obtain ⟨s1, hs1⟩ : ∃ s, s = z.2.2.1 := ⟨_, rfl⟩
            rw [← hs1] at hE2
            clear hs1
            have f2 := hE2 2 _ rfl
            clear hcs2 hz hvl2 hE2
            by_cases qs1 : s1.size > 300
            ·have qs1' : (s1.size : Int) > 300 := by omega
             go_wp2_with fail
             go_ret
             exact ⟨_, rfl, HB.out⟩
            ·have qs1' : ¬ (s1.size : Int) > 300 := by omega
             go_wp2_with fail
             exact ⟨⟨j + 1, by go_num, by omega⟩, by simp [intOf]; omega⟩
           ·have hjl' : ¬ (j : Int) < (t1 : Int) := by omega
            go_wp2_with fail
            exact ⟨⟨i + 1, by go_num, by omega⟩, by simp [intOf]; omega⟩
        ·have hlt' : ¬ (i : Int) < (n1 : Int) := by omega
         go_wp2_with fail
         go_loop [6] (fun iv => ∃ i : Nat, iv = .int .i64 (i : Int) ∧ i ≤ n2) (fun iv => n2 - (intOf iv).toNat)
         case atStart => exact ⟨0, rfl, Nat.zero_le _⟩
         case round =>
          obtain ⟨i, rfl, hin⟩ := hrel
          by_cases hlt : i < n2
          ·have hlt' : (i : Int) < (n2 : Int) := by omega
           obtain ⟨y, hy⟩ : ∃ y, x.2.2.1[i]? = some y := ⟨_, List.getElem?_eq_getElem (by rw [← HN2.out]; exact hlt)⟩
           obtain ⟨b, o, vs, rfl, hgb, hbw, hvl, hRx, hcs⟩ := H2.out.at i y hy
           have hE : EltS b (o + i * 6) vs W := EltS.below (w := w) hcs hbw HB.out
           obtain ⟨rfl, _⟩ := hRx
           obtain ⟨s1, hs1⟩ : ∃ s, s = y.2.2.1 := ⟨_, rfl⟩
           rw [← hs1] at hE
           obtain ⟨s2, hs2⟩ : ∃ s, s = y.2.2.2.2.1 := ⟨_, rfl⟩
           rw [← hs2] at hE
           clear hs1
           clear hs2
           have e2 := hE 2 _ rfl
           have e4 := hE 4 _ rfl
           clear hcs hy hvl hE
           by_cases qs1 : s1.size > 300
           ·have qs1' : (s1.size : Int) > 300 := by omega
            go_wp2_with fail
            go_ret
            exact ⟨_, rfl, HB.out⟩
           ·have qs1' : ¬ (s1.size : Int) > 300 := by omega
            by_cases qs2 : s2.size > 300
            ·have qs2' : (s2.size : Int) > 300 := by omega
             go_wp2_with fail
             go_ret
             exact ⟨_, rfl, HB.out⟩
            ·have qs2' : ¬ (s2.size : Int) > 300 := by omega
             go_wp2_with fail
             exact ⟨⟨i + 1, by go_num, by omega⟩, by simp [intOf]; omega⟩
          ·have hlt' : ¬ (i : Int) < (n2 : Int) := by omega
           go_wp2_with fail
           go_loop [7] (fun iv => ∃ i : Nat, iv = .int .i64 (i : Int) ∧ i ≤ n3) (fun iv => n3 - (intOf iv).toNat)
           case atStart => exact ⟨0, rfl, Nat.zero_le _⟩
           case round =>
            obtain ⟨i, rfl, hin⟩ := hrel
            by_cases hlt : i < n3
            ·have hlt' : (i : Int) < (n3 : Int) := by omega
             obtain ⟨y, hy⟩ : ∃ y, x.2.2.2[i]? = some y := ⟨_, List.getElem?_eq_getElem (by rw [← HN3.out]; exact hlt)⟩
             obtain ⟨b, o, vs, rfl, hgb, hbw, hvl, hRx, hcs⟩ := H3.out.at i y hy
             have hE : EltS b (o + i * 2) vs W := EltS.below (w := w) hcs hbw HB.out
             obtain ⟨rfl, _⟩ := hRx
             obtain ⟨s1, hs1⟩ : ∃ s, s = y.1 := ⟨_, rfl⟩
             rw [← hs1] at hE
             obtain ⟨s2, hs2⟩ : ∃ s, s = y.2 := ⟨_, rfl⟩
             rw [← hs2] at hE
             clear hs1
             clear hs2
             have e0 := hE 0 _ rfl
             have e1 := hE 1 _ rfl
             clear hcs hy hvl hE
             simp only [Nat.add_zero] at e0
             by_cases qs1 : s1.size > 300
             ·have qs1' : (s1.size : Int) > 300 := by omega
              go_wp2_with fail
              go_ret
              exact ⟨_, rfl, HB.out⟩
             ·have qs1' : ¬ (s1.size : Int) > 300 := by omega
              by_cases qs2 : s2.size > 300
              ·have qs2' : (s2.size : Int) > 300 := by omega
               go_wp2_with fail
               go_ret
               exact ⟨_, rfl, HB.out⟩
              ·have qs2' : ¬ (s2.size : Int) > 300 := by omega
               go_wp2_with fail
               exact ⟨⟨i + 1, by go_num, by omega⟩, by simp [intOf]; omega⟩
            ·have hlt' : ¬ (i : Int) < (n3 : Int) := by omega
             go_wp2_with fail
             go_ret
             exact ⟨_, rfl, HB.out⟩
theorem i64_0 : I64 0 := ⟨by decide, by decide⟩
theorem Slv.mono {α : Type} {R : Rp α} {sz : Nat} (hR : Stb R) {w w' : World} {G G' : Nat → Prop} {v : Value} {l : List α} (hv : Slv R sz w G v l) (_hG : ∀ b, G b → b < w.heap.size) (hG' : ∀ b, G b → G' b) (hb : Below w.heap.size w w') : Slv R sz w' G' v l :=
 Slv.stb hR hG' (fun b _hg hl => hb.block b hl) hv
end Go.Proofs.YtmhhcfceikcfbaaGreat
