/- Walks: items decoded; the law on items. -/
import Derived.Test.YtmhhcfceikcfbaaGreatQ1
import Derived.Test.YtmhhcfceikcfbaaGreatSm1
import Derived.Test.YtmhhcfceikcfbaaGreatLy5
import Derived.Test.YtmhhcfceikcfbaaGreatT3
import Derived.Test.YtmhhcfceikcfbaaGreatF1
namespace Go.Proofs.YtmhhcfceikcfbaaGreat
open Go.RowKit

def DecL {α : Type} (R : Rp α) (sz : Nat) (p : Rd (List α)) (s : ByteArray) (w : World) (ex : Ending) (w' : World) : Prop :=
  Below w.heap.size w w' ∧ ∃ v l, ex = .returned (.tuple #[v, .int .i64 (decErr p (bytesN s))]) ∧ Slv R sz w' (fun b => w.heap.size ≤ b ∧ b < w'.heap.size) v l ∧ (decErr p (bytesN s) ≠ 0 → l = []) ∧ (decErr p (bytesN s) = 0 → p (bytesN s) = .ok l s.size)

set_option maxRecDepth 100000 in
set_option maxHeartbeats 4000000 in
theorem end28_rdr (r k0 : Nat) (s : ByteArray) (e0 : Int) (w : World) (h : Rdr 30 r s k0 e0 w) :
    Calls Tryz.prog 28 #[.pointer (some ⟨r, 0, none⟩)] w fun e w' => e = .returned (.int .i64 (if k0 < s.size then errC e0 15 else e0)) ∧ Rdr 30 r s k0 (if k0 < s.size then errC e0 15 else e0) w' ∧ w.grownBy w' (some r) := by
  obtain ⟨c0, c1, c2, f1, f2⟩ := h.cells
  have HR := Lib.hid h
  clear h
  by_cases hk : k0 < s.size
  · have d0 : decide ((k0 : Int) < (s.size : Int)) = true := by simp; omega
    rw [if_pos hk]
    have b1 : (k0 : Int) < (s.size : Int) := by omega
    have HF := Lib.hid (fun j : Nat => fail44_any r k0 s e0 15 (w.drewN j) (HR.out.drewN j))
    go_enter Tryz.func28, Tryz.ntmps28
    go_wp2_with fail
    go_quiet (fail)
    go_wp2_with fail
    refine (HF.out _).mono ?_
    rintro e w2 ⟨rfl, hr2, hg2⟩
    obtain ⟨c0', c1', c2', f1', f2'⟩ := hr2.cells
    have HG2 := Lib.hid (grown_trans (grown_drewN (grown_refl w (some r)) _) hg2)
    have HR2 := Lib.hid hr2
    clear hr2 hg2 HF c0 c1 c2
    go_wp2_with fail
    go_ret
    exact ⟨rfl, HR2.out, HG2.out⟩
  · have d0 : decide ((k0 : Int) < (s.size : Int)) = false := by simp; omega
    have b1 : ¬ (k0 : Int) < (s.size : Int) := by omega
    rw [if_neg hk]
    go_enter Tryz.func28, Tryz.ntmps28
    go_wp2_with fail
    go_quiet (fail)
    go_wp2_with fail
    go_ret
    exact ⟨rfl, HR.out.drewN _, grown_drewN (grown_refl w (some r)) _⟩

set_option maxRecDepth 100000 in
set_option maxHeartbeats 4000000 in
theorem Dec24 (n : Nat) (s : ByteArray) (w : World) (hs : s.size ≤ 549755813888) (hn : s.size < n) :
    Calls Tryz.prog 24 #[.string s] w (DecL (itP n) 11 (listR (itR n)) s w) := by
  obtain ⟨g, hg⟩ : ∃ g, g = w.heap.size := ⟨_, rfl⟩
  obtain ⟨W, hW⟩ : ∃ W, W = w.alloc (.cells #[.string s, .int .i64 0, .int .i64 0] 99) := ⟨_, rfl⟩
  have hR : Rdr 99 g s 0 0 W := by rw [hW]; exact heap_alloc_new' _ _ hg
  have hB : Below w.heap.size w W := by rw [hW]; exact (Below.refl _ _).alloc (Nat.le_refl _) _
  have hWs : W.heap.size = g + 1 := by rw [hW, hg]; simp
  have C := Lib.hid (rd_items s hs n g 0 0 W hR (Nat.zero_le _) (fun _ => by omega))
  have HB := Lib.hid hB
  have HW := Lib.hid hW
  have HGq := Lib.hid hg
  clear hR hB hW hg
  go_enter Tryz.func24, Tryz.ntmps24
  go_wp2_with fail
  rw [← HW.out, ← HGq.out]
  refine C.out.mono ?_
  rintro e w1 ⟨v, l, k1, e1, rfl, hS, hr1, hg1, hs1⟩
  have HB1 := Lib.hid (HB.out.trans (below_store (B := w.heap.size) HB.out.size hg1 (by rw [HGq.out]; exact Nat.le_refl _)))
  have hgs := hg1.size
  have HS := Lib.hid hS
  have HR1 := Lib.hid hr1
  have HS1 := Lib.hid hs1
  have C2 := Lib.hid (end66 g k1 s e1 w1 hr1)
  clear C HW HB hg1 hr1 hs1 hS
  go_wp2_with fail
  refine C2.out.mono ?_
  rintro e w2 ⟨rfl, hg2⟩
  obtain ⟨hc1, hc2⟩ := dec_code HS1.out
  obtain ⟨E, hE⟩ : ∃ E, E = decErr (listR (itR n)) (bytesN s) := ⟨_, rfl⟩
  rw [hc1, ← hE]
  rw [← hE] at hc2
  have HE := Lib.hid hE
  have HC2 := Lib.hid hc2
  have HB2 := Lib.hid (HB1.out.trans (below_store (B := w.heap.size) HB1.out.size hg2 (by rw [HGq.out]; exact Nat.le_refl _)))
  have HS2 : Hid (Slv (itP n) 11 w2 (fun b => w.heap.size ≤ b ∧ b < w2.heap.size) v l) := Lib.hid (HS.out.stb (stb_it n) (fun b hb => ⟨by have := hb.1; have := HGq.out; omega, by have := hb.2; have := hg2.size; omega⟩) (fun b hb hl => hg2.block b hl (fun q => by injection q with q; have := hb.1; omega)))
  clear hg2 hc1 hc2 hE HS HR1 C2 HB1 HS1
  by_cases h0 : E = 0
  · subst h0
    go_wp2_with fail
    go_ret2
    exact ⟨HB2.out, v, l, (by rw [← HE.out]; rfl), HS2.out, fun q => absurd HE.out.symm q, fun _ => HC2.out (by trivial)⟩
  · have q0 : (E == 0) = false := by rw [beq_eq_false_iff_ne]; exact h0
    go_wp2_with fail
    go_ret2
    exact ⟨HB2.out, _, [], (by rw [← HE.out]; rfl), Slv.nil _ _, fun _ => rfl, fun q => absurd (HE.out.trans q) h0⟩

set_option maxRecDepth 100000 in
set_option maxHeartbeats 4000000 in
theorem items_any (n : Nat) (G : Nat → Prop) (w : World) (v : Value) (l : List (It n)) (s1 : ByteArray) (hv : Slv (itP n) 11 w G v l) (hG : ∀ b, G b → b < w.heap.size) (hz : (listE (itE n) l).length ≤ 10485760) (hn : 10485760 < n) : Calls Tryz.prog 6 #[v, .string s1] w (TrueC w) := by
  obtain ⟨q1, hq1⟩ : ∃ q, q = (min (s1.size : Int) 300).toNat := ⟨_, rfl⟩
  obtain ⟨t, h1⟩ : ∃ t, t = s1.extract 0 q1 := ⟨_, rfl⟩
  have z1 : t.size ≤ 300 := by rw [h1, ByteArray.size_extract]; omega
  have g1 : (if (300 : Int) < (s1.size : Int) then (300 : Int) else (s1.size : Int)) = (q1 : Int) := by split <;> omega
  have g3 : (q1 : Int) ≤ (s1.size : Int) := by omega
  have x1 := h1.symm
  clear hq1 h1
  have hdom : Li (itD n) l := dom_slv (dom_it n) hv
  obtain ⟨A, cp, hsl, hlc, hcm⟩ := hv.shape
  have HV := Lib.hid hv
  have HG := Lib.hid hG
  subst hsl
  obtain ⟨k, hk⟩ : ∃ k, k = l.length := ⟨_, rfl⟩
  rw [← hk]
  rw [← hk] at HV
  obtain ⟨S, hS⟩ : ∃ S, S = mkB (listE (itE n) l) := ⟨_, rfl⟩
  have hSz : S.size ≤ 10485760 := by rw [hS, mkB_size]; exact hz
  have HBW := Lib.hid (back_whole (fit_its n) ((byt_it n).list) hdom)
  rw [← hS] at HBW
  have HS := Lib.hid hS
  have HZ := Lib.hid hz
  clear hv hG hdom hlc hcm hk hS hz
  have C23 : Hid (∀ W, Below w.heap.size w W → Calls Tryz.prog 23 #[.slice A k cp] W (fun e w' => e = .returned (.string S) ∧ Below W.heap.size W w')) := Lib.hid (fun W hW => by
    rw [HS.out]
    exact EncItems23 n G W _ l (HV.out.below (stb_it n) HG.out hW) (fun b h => Nat.lt_of_lt_of_le (HG.out b h) hW.size) (by have := HZ.out; omega))
  have C25 : Hid (∀ W, Below w.heap.size w W → Calls Tryz.prog 25 #[.slice A k cp] W (fun e w' => e = .returned (.string S) ∧ Below W.heap.size W w')) := Lib.hid (fun W hW => by
    rw [HS.out]
    exact str_items n G W _ l (HV.out.below (stb_it n) HG.out hW) (fun b h => Nat.lt_of_lt_of_le (HG.out b h) hW.size) (by have := HZ.out; omega))
  go_enter Tryz.func6, Tryz.ntmps6
  go_upto_region 2 with fail
  clear g1 g3 x1
  go_wp2_with fail
  refine (known15 _).mono ?_
  rintro e w1 ⟨rfl, hb1⟩
  have HB1 := Lib.hid hb1
  clear hb1
  obtain ⟨g, hg⟩ : ∃ g, g = w1.heap.size := ⟨_, rfl⟩
  obtain ⟨W, hW⟩ : ∃ W, W = w1.alloc (.cells #[.slice A k cp] 33) := ⟨_, rfl⟩
  have hb4 : W.heap[g]? = some (.cells #[.slice A k cp] 33 (0, 0)) := by rw [hW]; exact heap_alloc_new' _ _ hg
  have hBW : Below w1.heap.size w1 W := by rw [hW]; exact (Below.refl _ _).alloc (Nat.le_refl _) _
  have HBW2 := Lib.hid (HB1.out.trans (hBW.mono HB1.out.size))
  have C := Lib.hid (small18 W W [.slice A k cp] g 0 1 (fun j u hu => by rw [Nat.zero_add, blk_cell hb4 j]; simpa using hu) (by simp) (lt_of_blk hb4) (Below.refl _ _) (by
    intro v hv X hX
    simp only [List.mem_cons, List.not_mem_nil, or_false] at hv
    subst hv
    exact weight_any n G X _ _ (HV.out.below (stb_it n) HG.out (HBW2.out.trans (hX.mono HBW2.out.size))) (fun b h => Nat.lt_of_lt_of_le (HG.out b h) (Nat.le_trans HBW2.out.size hX.size))))
  have HW := Lib.hid hW
  have HGq := Lib.hid hg
  clear hW hg hb4 hBW
  go_wp2_with fail
  rw [← HW.out, ← HGq.out]
  refine C.out.mono ?_
  rintro e w2 ⟨b1, rfl, hb2⟩
  have HB2 := Lib.hid (HBW2.out.trans (hb2.mono HBW2.out.size))
  clear hb2 HW HGq C HBW2 HB1
  cases b1
  · go_wp2_with fail
    refine (known15 _).mono ?_
    rintro e w3 ⟨rfl, hb3⟩
    have HB3 := Lib.hid (HB2.out.trans (hb3.mono HB2.out.size))
    clear hb3
    go_wp2_with fail
    go_ret
    exact ⟨rfl, HB3.out⟩
  · go_wp2_with fail
    refine (C23.out _ HB2.out).mono ?_
    rintro e w3 ⟨rfl, hb3⟩
    have HB3 := Lib.hid (HB2.out.trans (hb3.mono HB2.out.size))
    have C := Lib.hid (Dec24 n S w3 (by omega) (by omega))
    clear hb3 HB2
    go_wp2_with fail
    refine C.out.mono ?_
    rintro e w4 ⟨hb4, v2, l2, rfl, hR2, _, hk2⟩
    obtain ⟨hbw1, hbw2⟩ := HBW.out
    rw [hbw2]
    have hl2 : l2 = l := ok_same hbw1 (hk2 hbw2)
    have HL2 := Lib.hid hl2
    clear hk2 hbw1 hbw2 HBW hl2
    obtain ⟨A2, cp2, hsl2, hlc2, hcm2⟩ := hR2.shape
    subst hsl2
    obtain ⟨k2, hk2⟩ : ∃ k, k = l2.length := ⟨_, rfl⟩
    rw [← hk2] at hR2 ⊢
    have HB4 := Lib.hid (HB3.out.trans (hb4.mono HB3.out.size))
    have HR2 := Lib.hid hR2
    have h34 : w.heap.size ≤ w3.heap.size := HB3.out.size
    have C26 : Hid (∀ W, Below w4.heap.size w4 W → Calls Tryz.prog 26 #[.slice A2 k2 cp2, .slice A k cp] W (EqC W (l2 = l))) := Lib.hid (fun W hW => by
      have hBW := HB4.out.trans (hW.mono HB4.out.size)
      refine eq_items n (fun b => b < w4.heap.size) W _ _ _ _ (HR2.out.stb (stb_it n) (fun b hb => hb.2) (fun b hb hl => hW.block b hl)) (HV.out.stb (stb_it n) (fun b hb => ?_) (fun b hb hl => hBW.block b hl)) (fun b hb => Nat.lt_of_lt_of_le hb hW.size)
      exact Nat.lt_of_lt_of_le (HG.out b hb) HB4.out.size)
    clear hb4 C hR2 HB3 hk2 hlc2 hcm2
    go_wp2_with fail
    refine (C25.out _ HB4.out).mono ?_
    rintro e w5 ⟨rfl, hb5⟩
    have HB5 := Lib.hid (HB4.out.trans (hb5.mono HB4.out.size))
    have C := Lib.hid (C26.out w5 hb5)
    clear hb5 C26 HR2 HB4
    go_wp2_with fail
    refine C.out.mono ?_
    rintro e w6 ⟨r, rfl, hr, hb6⟩
    obtain rfl : r = true := hr.2 HL2.out
    have HB6 := Lib.hid (HB5.out.trans (hb6.mono HB5.out.size))
    clear hb6 C hr HB5 HL2
    have C := Lib.hid (Dec24 n t w6 (by omega) (by omega))
    go_wp2_with fail
    refine C.out.mono ?_
    rintro e w7 ⟨hb7, v3, l3, rfl, hR3, hz3, hk3⟩
    obtain ⟨E, hE⟩ : ∃ E, E = decErr (listR (itR n)) (bytesN t) := ⟨_, rfl⟩
    rw [← hE] at hz3 hk3 ⊢
    have HB7 := Lib.hid (HB6.out.trans (hb7.mono HB6.out.size))
    obtain ⟨A3, cp3, hsl3, hlc3, hcm3⟩ := hR3.shape
    subst hsl3
    obtain ⟨k3, hk3'⟩ : ∃ k, k = l3.length := ⟨_, rfl⟩
    rw [← hk3'] at hR3 ⊢
    have hkk3 : k3 ≤ 9223372036854775807 := by unfold maxLen at hcm3; omega
    have HK3 := Lib.hid hk3'
    have HR3 := Lib.hid hR3
    have HZ3 := Lib.hid hz3
    have HD3 := Lib.hid hk3
    have HE := Lib.hid hE
    clear C hb7 HB6 hR3 hz3 hk3 hE hk3' hlc3 hcm3
    obtain ⟨r, hr⟩ : ∃ r, r = w7.heap.size := ⟨_, rfl⟩
    obtain ⟨X, hX⟩ : ∃ X, X = w7.alloc (.cells #[.string t, .int .i64 0, .int .i64 0] 30) := ⟨_, rfl⟩
    have hRd : Rdr 30 r t 0 0 X := by rw [hX]; exact heap_alloc_new' _ _ hr
    have hBX : Below w7.heap.size w7 X := by rw [hX]; exact (Below.refl _ _).alloc (Nat.le_refl _) _
    have hXs : X.heap.size = r + 1 := by rw [hX, hr]; simp
    have C := Lib.hid (lr_items t (by omega) n r 0 0 X hRd (Nat.zero_le _) (fun _ => by omega))
    have HX := Lib.hid hX
    have HRq := Lib.hid hr
    have HBX := Lib.hid hBX
    clear hRd hX hr hBX
    go_wp2_with fail
    rw [← HX.out, ← HRq.out]
    refine C.out.mono ?_
    rintro e w8 ⟨v4, l4, k4, e4, rfl, hR4, hr4, hg4, hs4⟩
    obtain ⟨hc1, hc2⟩ := dec_code hs4
    rw [← HE.out] at hc1 hc2
    obtain ⟨A4, cp4, hsl4, hlc4, hcm4⟩ := hR4.shape
    subst hsl4
    obtain ⟨j4, hj4⟩ : ∃ k, k = l4.length := ⟨_, rfl⟩
    rw [← hj4] at hR4 ⊢
    have hX7 := HRq.out
    have hg4s := hg4.size
    have H78 := Lib.hid (HBX.out.trans (below_store (B := w7.heap.size) HBX.out.size hg4 (by rw [HRq.out]; exact Nat.le_refl _)))
    have C2 := Lib.hid (end28_rdr r k4 t e4 w8 hr4)
    rw [hc1] at C2
    have HC2 := Lib.hid hc2
    have HR4 := Lib.hid hR4
    clear C HX HBX hg4 hr4 hs4 hc1 hc2 hR4 hj4 hlc4 hcm4 hX7
    go_wp2_with fail
    refine C2.out.mono ?_
    rintro e w9 ⟨rfl, hr9, hg9⟩
    have H79 := Lib.hid (H78.out.trans (below_store (B := w7.heap.size) H78.out.size hg9 (by rw [HRq.out]; exact Nat.le_refl _)))
    have HB9 := Lib.hid (HB7.out.trans (H79.out.mono HB7.out.size))
    have HR4' : Hid (Slv (itP n) 11 w9 (fun b => b < w9.heap.size) (.slice A4 j4 cp4) l4) := Lib.hid (HR4.out.stb (stb_it n) (fun b hb => by have := hb.2; have := hg9.size; omega) (fun b hb hl => hg9.block b hl (fun q => by injection q with q; have := hb.1; omega)))
    have HR3' : Hid (Slv (itP n) 11 w9 (fun b => b < w9.heap.size) (.slice A3 k3 cp3) l3) := Lib.hid (HR3.out.stb (stb_it n) (fun b hb => by have := hb.2; have := H79.out.size; omega) (fun b hb hl => H79.out.block b hl))
    have c2 := blk_cell hr9 2
    clear hg9 hr9 C2 HR3 HR4 H78 HB7
    by_cases h0 : E = 0
    · subst h0
      have hl43 : l3 = l4 := ok_same (HC2.out rfl) (HD3.out rfl)
      have H43 := Lib.hid hl43
      have hwh := Lib.hid (whole (fit_its n) (HD3.out rfl))
      have C26 := Lib.hid (eq_items n _ w9 _ _ _ _ HR3'.out HR4'.out (fun b hb => hb))
      have C23b : Hid (∀ W, Below w9.heap.size w9 W → Calls Tryz.prog 23 #[.slice A3 k3 cp3] W (fun e w' => e = .returned (.string t) ∧ Below W.heap.size W w')) := Lib.hid (fun W hW => by
        have h2 := EncItems23 n (fun b => b < w9.heap.size) W _ l3 (HR3'.out.below (stb_it n) (fun b h => h) hW) (fun b h => Nat.lt_of_lt_of_le h hW.size) (by rw [hwh.out.1, bytesN_length]; omega)
        unfold StrE at h2
        rw [hwh.out.2] at h2
        exact h2)
      clear hl43 c2
      go_wp2_with fail
      refine C26.out.mono ?_
      rintro e w10 ⟨r2, rfl, hr2, hb10⟩
      obtain rfl : r2 = true := hr2.2 H43.out
      have HB10 := Lib.hid (HB9.out.trans (hb10.mono HB9.out.size))
      have C := Lib.hid (C23b.out w10 hb10)
      clear hb10 hr2 C26 C23b
      go_wp2_with fail
      refine C.out.mono ?_
      rintro e w11 ⟨rfl, hb11⟩
      have HB11 := Lib.hid (HB10.out.trans (hb11.mono HB10.out.size))
      clear hb11 C
      go_wp2_with fail
      go_ret
      exact ⟨rfl, HB11.out⟩
    · have q0 : (E == 0) = false := by rw [beq_eq_false_iff_ne]; exact h0
      have hk0 : k3 = 0 := by rw [HK3.out, HZ3.out h0]; rfl
      subst hk0
      go_wp2_with fail
      go_ret
      exact ⟨rfl, HB9.out⟩
end Go.Proofs.YtmhhcfceikcfbaaGreat
