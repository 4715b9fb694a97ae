/- Walk: IntervalmapTotals. -/
import Derived.Test.YtpcjklfdgjeamaaS2
namespace Go.Proofs.Ytpcjklfdgjeamaa
open Go.RowKit Go.MapKept

set_option maxRecDepth 100000 in
set_option maxHeartbeats 4000000 in
theorem totals_any (v : Value) (P : PlayD) (p q vv : Int) (w : World) (h : IsPlay w v P) :
    Calls Try.prog 6 #[v, .agg #[.int .i64 p, .int .i64 q], .int .i64 vv] w fun e w' => e = .returned (.bool true) ∧ Below w.heap.size w w' := by
  obtain ⟨sv, rfl, hpl, hps⟩ := id h
  obtain ⟨Ap, cp, rfl, hp1, hp2, hpz⟩ := hps
  clear hpz
  obtain ⟨W1, hW1⟩ : ∃ W1 : World, W1 = (w.alloc (.cells #[.int .u8 P.len, .int .i64 P.val, .slice Ap P.ops.length cp] 35)).alloc (.cells #[.int .i64 p, .int .i64 q] 45) := ⟨_, rfl⟩
  have bW : Below w.heap.size w W1 := by rw [hW1]; exact ((Below.refl _ _).alloc (Nat.le_refl _) _).alloc (by simp; try omega) _
  have c10 : W1.cell? ⟨w.heap.size + 1, 0, none⟩ = some (.int .i64 p) := by rw [hW1]; exact cell_over (cells_at (w.alloc (.cells #[.int .u8 P.len, .int .i64 P.val, .slice Ap P.ops.length cp] 35)) [.int .i64 p, .int .i64 q] 45 (by simp) 0 _ rfl) (Below.refl _ _)
  have c11 : W1.cell? ⟨w.heap.size + 1, 1, none⟩ = some (.int .i64 q) := by rw [hW1]; exact cell_over (cells_at (w.alloc (.cells #[.int .u8 P.len, .int .i64 P.val, .slice Ap P.ops.length cp] 35)) [.int .i64 p, .int .i64 q] 45 (by simp) 1 _ rfl) (Below.refl _ _)
  have hsz : w.heap.size + 1 < W1.heap.size := by rw [hW1]; simp; try omega
  have hpW := h.over bW
  have HW := Lib.hid hW1.symm
  clear hW1 h
  go_enter Try.func6, Try.ntmps6
  go_wp2_with fail
  rw [HW.out]
  refine (playw_any _ P W1 hpW).mono ?_
  rintro e v0 ⟨m, A, cA, l, rfl, hmW, hM0, hI0, hNI, hlb, bP⟩
  have k10 := cell_over c10 bP
  have k11 := cell_over c11 bP
  have bw := bW.trans (bP.mono bW.size)
  have hgem : w.heap.size ≤ m := by omega
  have hbm1 : w.heap.size + 1 ≠ m := by omega
  clear c10 c11 bP bW hNI hpW hsz hmW
  go_wp2_with fail
  refine (known_any v0).mono ?_
  rintro e v1 ⟨rfl, b1⟩
  have h2 := cell_over k10 b1
  have h3 := cell_over k11 b1
  have h4 := bw.trans (b1.mono bw.size)
  have h5 := hM0.below b1
  have h6 := hI0.over b1
  clear k10 k11 bw hM0 hI0 b1
  obtain ⟨n, hn⟩ : ∃ n, n = l.length := ⟨_, rfl⟩
  rw [← hn] at h6 hlb ⊢
  have HN := Lib.hid hn
  clear hn
  go_wp2
  go_quiet (fail)
  go_wp2_with fail
  have bq := below_drewN (Below.refl v1.heap.size v1) nq
  generalize v1.drewN nq = vq at bq ⊢
  have h7 := cell_over h2 bq
  have h8 := cell_over h3 bq
  have h9 := h4.trans (bq.mono h4.size)
  have h10 := h5.below bq
  have h11 := h6.over bq
  clear h2 h3 h4 h5 h6 bq
  clear h7 h8
  by_cases hr : rightB n p q = true
  · have hr3 : 0 ≤ p ∧ p ≤ q ∧ q ≤ n := by simpa [rightB, and_assoc] using hr
    obtain ⟨hr0, hr1, hr2⟩ := hr3
    obtain ⟨a, rfl⟩ := Int.eq_ofNat_of_zero_le hr0
    obtain ⟨b, rfl⟩ := Int.eq_ofNat_of_zero_le (show 0 ≤ q by omega)
    have hab : a ≤ b := by omega
    have hbn : b ≤ n := by omega
    have hln : n ≤ 1000 := hlb
    have HR := Lib.hid hr
    have HT : Hid (∀ (W : World) (x : Int), MapIs W m l → Calls Try.prog 19 #[.pointer (some ⟨m, 0, none⟩), .int .i64 a, .int .i64 b, .int .i64 x] W fun e w' => e = .returned (.tuple #[.int .i64 (cntV l a b x : Nat), .int .i64 0]) ∧ Below W.heap.size W w') := Lib.hid fun W x hW => total_some m l a b x W hW (by have := HN.out; omega) hab (by have := HN.out; omega)
    clear hr0 hr1 hr2 hr
    go_wp2_with fail
    refine (HT.out vq vv h10).mono ?_
    rintro e v2 ⟨rfl, b12⟩
    have h13 := h9.trans (b12.mono h9.size)
    have h14 := h10.below b12
    have h15 := h11.over b12
    clear h9 h10 h11 b12
    go_wp2_with fail
    refine (rright_any n a b v2).mono ?_
    rw [HR.out]
    rintro e w9 ⟨rfl, rfl⟩
    have hle := cntV_le l a b vv
    rw [← HN.out] at hle
    go_wp2_with fail
    refine (rtotal_any _ l a b vv _ h15 (by have := HN.out; omega) hab (by have := HN.out; omega)).mono ?_
    rintro e w9 ⟨rfl, rfl⟩
    obtain ⟨X, hX⟩ : ∃ X, X = cntV l a b vv := ⟨_, rfl⟩
    rw [← hX] at hle ⊢
    have hxx : ((X : Int) != (X : Int)) = false := by simp
    clear hX
    have hmm := @run_makeMap Try.prog
    obtain ⟨mb, hmb⟩ : ∃ mb, mb = v2.heap.size := ⟨_, rfl⟩
    have hgeb : w.heap.size ≤ mb := by rw [hmb]; exact h13.size
    have hr0 : MapIs (v2.alloc (.map #[] 0)) m l ∧ IntsV (v2.alloc (.map #[] 0)) (v2.alloc (.map #[] 0)).heap.size (.slice A n cA) l ∧ Below w.heap.size w (v2.alloc (.map #[] 0)) ∧ SeenAt (v2.alloc (.map #[] 0)) mb [] :=
      ⟨h14.below ((Below.refl _ _).alloc (Nat.le_refl _) _), h15.over ((Below.refl _ _).alloc (Nat.le_refl _) _), h13.alloc h13.size _, by rw [hmb]; exact SeenAt.new _⟩
    have H0 := Lib.hid hr0
    clear hr0 h14 h15 h13
    have HMB := Lib.hid hmb
    have haI : (a : Int) ≤ (b : Int) := by omega
    go_wp2
    rw [← HMB.out]
    clear hmb
    go_loopw [15, 16] (fun sv iv wr => ∃ (k s : Nat) (S : List Int), a ≤ k ∧ k ≤ b ∧ s ≤ 1000 ∧ iv = .int .i64 k ∧ sv = .int .i64 s ∧ Hid (s = inS S (part l a b)) ∧ Hid (Upto l S a k) ∧ Hid (SeenAt wr mb S) ∧ MapIs wr m l ∧ IntsV wr wr.heap.size (.slice A n cA) l ∧ Below w.heap.size w wr) (fun _ iv _ => b - (intOf iv).toNat)
    case atStart => exact ⟨a, 0, [], Nat.le_refl _, hab, by omega, rfl, rfl, Lib.hid (inS_nil _).symm, Lib.hid (Upto.nil _ _ _), Lib.hid H0.out.2.2.2, H0.out.1, H0.out.2.1, H0.out.2.2.1⟩
    case round =>
      obtain ⟨k, s, S, hk1, hk2, hs, rfl, rfl, HJ, HU, HS, hM, hI, hB⟩ := hrel
      by_cases hlt : k < b
      · have hkl : k < l.length := by have := HN.out; omega
        obtain ⟨A9, c9, he9, hc91, hc92, hr9⟩ := hI.ints
        injection he9 with he91 he92 he93
        obtain ⟨b9, o9, hA9, hb9, g9⟩ := hr9 k hkl
        subst he91 hA9
        obtain ⟨x, hx⟩ : ∃ x, x = l[k]'hkl := ⟨_, rfl⟩
        have HX : Hid (l[k]'hkl = x) := Lib.hid hx.symm
        rw [← hx] at g9
        have hkn : k < n := by omega
        have hkI : (k : Int) < (b : Int) := by omega
        clear hx he92 he93 hr9 hc91 hc92
        by_cases hxs : x ∈ S
        · have HU2 := Lib.hid (HU.out.keep hkl HX.out hxs)
          have hdx : decide (x ∈ S) = true := decide_eq_true hxs
          clear hxs
          go_wp2_with (first | (at_lookup; refine wpList_seen _ rfl _ _ 50 rfl 3 4 Try.underlying50 Try.underlying3 (zero4 _) mb S x rfl HS.out rfl ?_; rw [hdx]) | go_in)
          go_roundw
          case rel => exact ⟨k + 1, s, S, by omega, by omega, hs, by go_num, rfl, HJ, HU2, HS, hM, hI, hB⟩
          case measure => simp [intOf]; omega
        · have HU2 := Lib.hid (HU.out.put (x := x) hkl HX.out)
          have HJ2 : Hid (s + cntV l a b x = inS (x :: S) (part l a b)) := Lib.hid (by rw [sum_step hxs, HJ.out])
          have hs2 : s + cntV l a b x ≤ 1000 := by rw [HJ2.out]; have := inS_le (x :: S) (part l a b); rw [part_length l a b (by have := HN.out; omega)] at this; omega
          have hdx : decide (x ∈ S) = false := decide_eq_false hxs
          have HXS := Lib.hid hxs
          clear hxs
          obtain ⟨y, hy⟩ : ∃ y, y = cntV l a b x := ⟨_, rfl⟩
          have HT2 := Lib.hid (fun W hW => HT.out W x hW)
          rw [← hy] at HT2 HJ2 hs2
          clear hy
          go_wp2_with (first | (at_lookup; refine wpList_seen _ rfl _ _ 50 rfl 3 4 Try.underlying50 Try.underlying3 (zero4 _) mb S x rfl HS.out rfl ?_; rw [hdx]) | (at_mapUpdate; refine wpList_see _ rfl _ _ _ 50 rfl 3 4 Try.underlying50 Try.underlying3 mb S x rfl HS.out rfl rfl HXS.out ?_; intro w5 hS5 hg5; have q9 := HS.out.cell hg5 g9; have hM5 := hM.past HS.out hg5; have hI5 := hI.past HS.out hg5; have hB5 := hB.grown hg5 hB.size (fun q hq => by injection hq with hq; rw [← hq]; exact hgeb); clear hg5 g9 hM hI hB) | fail)
          refine (HT2.out _ hM5).mono ?_
          rintro e w6 ⟨rfl, b6⟩
          have hS6 := Lib.hid (hS5.below b6)
          have hM6 := hM5.below b6
          have hI6 := hI5.over b6
          have hB6 := hB5.trans (b6.mono hB5.size)
          clear hS5 hM5 hI5 hB5 b6 q9
          go_wp2
          go_roundw
          case rel => exact ⟨k + 1, s + y, x :: S, by omega, by omega, hs2, by go_num, by go_num, HJ2, HU2, hS6, hM6, hI6, hB6⟩
          case measure => simp [intOf]; omega
      · have hkb : k = b := by omega
        subst hkb
        have hq : (s : Int) = (k : Int) - (a : Int) := by have h1 := HJ.out; have h2 := HU.out.all (by have := HN.out; omega); omega
        go_wp2
        go_ret
        exact ⟨rfl, hB⟩
  · have hrB : rightB n p q = false := by simpa using hr
    go_wp2_with fail
    refine (total_none m l p q vv vq h10 (by rw [← HN.out]; exact hrB)).mono ?_
    rintro e v2 ⟨rfl, b12⟩
    have h13 := h9.trans (b12.mono h9.size)
    have h14 := h10.below b12
    have h15 := h11.over b12
    clear h9 h10 h11 b12
    go_wp2_with fail
    refine (rright_any n p q v2).mono ?_
    rw [hrB]
    rintro e w9 ⟨rfl, rfl⟩
    go_wp2
    go_ret
    exact ⟨rfl, h13⟩
end Go.Proofs.Ytpcjklfdgjeamaa
