/- Walks: Total, and the reference's. -/
import Derived.Test.YtpcjklfdgjeamaaA1
namespace Go.Proofs.Ytpcjklfdgjeamaa
open Go.RowKit

def totF : List Rn → Int → Int → Int
  | [], a, _ => a
  | r :: R, a, v => totF R (if r.2.2 = v then a + (r.2.1 - r.1) else a) v
theorem totF_xp (v : Int) : ∀ (R : List Rn) (a : Int), Wide R → totF R a v = a + ((xp R).count v : Nat)
  | [], a, _ => by simp [totF, xp]
  | r :: R, a, h => by
    have hr := h r (List.mem_cons_self ..)
    rw [totF, totF_xp v R _ (fun x hx => h x (List.mem_cons_of_mem _ hx)), xp_cons, List.count_append]
    by_cases hv : r.2.2 = v
    · rw [if_pos hv, hv, List.count_replicate_self]
      have : ((wdt r : Nat) : Int) = r.2.1 - r.1 := by unfold wdt; omega
      rw [Int.natCast_add, this]; omega
    · rw [if_neg hv, List.count_replicate, if_neg (by simpa using hv)]
      simp
theorem totF_drop (R : List Rn) (k : Nat) (h : k < R.length) (a v : Int) : totF (R.drop k) a v = totF (R.drop (k + 1)) (if R[k].2.2 = v then a + (R[k].2.1 - R[k].1) else a) v := by
  rw [List.drop_eq_getElem_cons h]; rfl

/-- How many of the offsets from p to q have the value v. -/
def cntV (l : List Int) (p q : Nat) (v : Int) : Nat := ((l.drop p).take (q - p)).count v
theorem cntV_le (l : List Int) (p q : Nat) (v : Int) : cntV l p q v ≤ l.length := by
  unfold cntV
  have h1 := List.count_le_length (a := v) (l := (l.drop p).take (q - p))
  rw [List.length_take, List.length_drop] at h1
  omega
theorem cntV_succ (l : List Int) (p k : Nat) (v : Int) (hp : p ≤ k) (hk : k < l.length) : cntV l p (k + 1) v = cntV l p k v + (if l[k] = v then 1 else 0) := by
  unfold cntV
  have e : k + 1 - p = (k - p) + 1 := by omega
  have hlen : k - p < (l.drop p).length := by rw [List.length_drop]; omega
  rw [e, List.take_succ_eq_append_getElem hlen, List.count_append, List.getElem_drop]
  have : p + (k - p) = k := by omega
  simp only [this, List.count_singleton]
  by_cases h : l[k] = v
  · simp [h]
  · simp [h]
theorem cntV_zero (l : List Int) (p : Nat) (v : Int) : cntV l p p v = 0 := by simp [cntV]

set_option maxHeartbeats 1000000 in
theorem rtotal_any (lv : Value) (l : List Int) (p q : Nat) (v : Int) (w : World) (h : IntsV w w.heap.size lv l) (hl : l.length ≤ 100000) (hpq : p ≤ q) (hq : q ≤ l.length) :
    Calls Try.prog 21 #[lv, .int .i64 p, .int .i64 q, .int .i64 v] w fun e w' => e = .returned (.int .i64 (cntV l p q v : Nat)) ∧ w = w' := by
  obtain ⟨A, c, rfl, hlc, hc, hR⟩ := h.ints
  have HR := Lib.hid hR
  clear h hR
  obtain ⟨n, hn⟩ : ∃ n, n = l.length := ⟨_, rfl⟩
  rw [← hn] at hlc hl hq ⊢
  have HN := Lib.hid hn
  clear hn
  go_enter Try.func21, Try.ntmps21
  go_wp2
  go_loop [9, 10] (fun av iv => ∃ k a : Nat, p ≤ k ∧ k ≤ q ∧ a ≤ 100000 ∧ iv = .int .i64 k ∧ av = .int .i64 a ∧ Hid (a = cntV l p k v)) (fun _ iv => q - (intOf iv).toNat)
  case atStart => exact ⟨p, 0, Nat.le_refl _, hpq, by omega, rfl, rfl, Lib.hid (cntV_zero l p v).symm⟩
  case round =>
    obtain ⟨k, a, hk1, hk2, ha, rfl, rfl, HJ⟩ := hrel
    by_cases hlt : k < q
    · obtain ⟨b, oo, rfl, hbB, g1⟩ := HR.out k (by rw [← HN.out]; omega)
      have HS := Lib.hid (cntV_succ l p k v hk1 (by rw [← HN.out]; omega))
      have hle := cntV_le l p (k + 1) v
      rw [← HN.out] at hle
      obtain ⟨x, hx⟩ : ∃ x, x = l[k]'(by rw [← HN.out]; omega) := ⟨_, rfl⟩
      rw [← hx] at g1 HS
      clear hx
      have hkn : k < n := by omega
      by_cases hxv : x = v
      · have HV : Hid (a + 1 = cntV l p (k + 1) v) := Lib.hid (by rw [HS.out, if_pos hxv, HJ.out])
        have ha1 : a + 1 ≤ 100000 := by rw [HV.out]; omega
        have hq1 : (x == v) = true := by simpa using hxv
        clear HS hxv hle
        go_wp2
        go_round
        case rel => exact ⟨k + 1, a + 1, by omega, by omega, ha1, by go_num, by go_num, HV⟩
        case measure => simp [intOf]; omega
      · have HV : Hid (a = cntV l p (k + 1) v) := Lib.hid (by rw [HS.out, if_neg hxv, HJ.out]; rfl)
        have hq1 : (x == v) = false := by simpa using hxv
        clear HS hxv hle
        go_wp2
        go_round
        case rel => exact ⟨k + 1, a, by omega, by omega, ha, by go_num, rfl, HV⟩
        case measure => simp [intOf]; omega
    · have hkq : k = q := by omega
      subst hkq
      go_wp2
      go_ret
      exact ⟨by rw [← HJ.out]; rfl, rfl⟩

set_option maxHeartbeats 1000000 in
theorem total_none (m : Nat) (l : List Int) (p q v : Int) (w : World) (h : MapIs w m l) (hr : rightB l.length p q = false) :
    Calls Try.prog 19 #[.pointer (some ⟨m, 0, none⟩), .int .i64 p, .int .i64 q, .int .i64 v] w fun e w' => e = .returned (.tuple #[.int .i64 0, .int .i64 2]) ∧ Below w.heap.size w w' := by
  have H := Lib.hid (right_any m _ p q w h)
  rw [(runs_ok l).2.1, hr] at H
  clear h hr
  go_enter Try.func19, Try.ntmps19
  go_wp2_with fail
  refine H.out.mono ?_
  rintro e w1 ⟨rfl, k1, rfl⟩
  go_wp2
  go_ret2
  exact ⟨rfl, below_drewN (Below.refl _ _) _⟩

set_option maxRecDepth 100000 in
set_option maxHeartbeats 2000000 in
theorem total_some (m : Nat) (l : List Int) (p q : Nat) (v : Int) (w : World) (h : MapIs w m l) (hl : l.length ≤ 100000) (hpq : p ≤ q) (hq : q ≤ l.length) :
    Calls Try.prog 19 #[.pointer (some ⟨m, 0, none⟩), .int .i64 p, .int .i64 q, .int .i64 v] w fun e w' => e = .returned (.tuple #[.int .i64 (cntV l p q v : Nat), .int .i64 0]) ∧ Below w.heap.size w w' := by
  have hrl := runs_length l
  have hok := runs_ok l
  have hcut := cut_runs l p q hq
  have hbd := cut_bounds (R := runsOf l) (p := p) (q := q) hok.1 (by omega) (by rw [hok.2.1]; omega)
  rw [hok.2.1] at hbd
  have hcl := cut_length (runsOf l) p q
  have H := Lib.hid (right_any m _ p q w h)
  have hrb : rightB l.length p q = true := by simp [rightB]; omega
  rw [hok.2.1, hrb] at H
  have HC := Lib.hid (fun k => cut_any m _ p q (w.drewN k) (h.drewN k) hok.1 (by omega) (by rw [hok.2.1]; omega) (by omega) (by rw [hok.2.1]; omega))
  obtain ⟨M, hM⟩ : ∃ M, M = cutL (runsOf l) p q := ⟨_, rfl⟩
  rw [← hM] at hcut hbd hcl HC
  obtain ⟨X, hX⟩ : ∃ X, X = cntV l p q v := ⟨_, rfl⟩
  have HX : Hid (totF (M.drop 0) 0 v = (X : Int)) := Lib.hid (by
    rw [List.drop_zero, totF_xp v M 0 hcut.2, hcut.1, hX]; simp [cntV])
  rw [← hX]
  have HB := Lib.hid hbd
  have hMl : M.length ≤ 100000 := by omega
  have hln : l.length ≤ 100000 := hl
  clear h hcut hbd hcl hM hX hok hrb hrl
  go_enter Try.func19, Try.ntmps19
  go_wp2_with fail
  refine H.out.mono ?_
  rintro e w1 ⟨rfl, k1, rfl⟩
  go_wp2_with fail
  refine (HC.out k1).mono ?_
  rintro e w2 ⟨vM, rfl, oM, b2⟩
  have bw := (below_drewN (Below.refl w.heap.size w) k1).trans (b2.mono (below_drewN (Below.refl w.heap.size w) k1).size)
  obtain ⟨A, c, rfl, hlc, hc, hR⟩ := (oM.sl encR_length).run
  have HR := Lib.hid hR
  obtain ⟨n, hn⟩ : ∃ n, n = M.length := ⟨_, rfl⟩
  rw [← hn] at hlc hMl ⊢
  have HN := Lib.hid hn
  clear hn oM b2 hR
  go_wp2
  go_loopw [10, 27] (fun av iv wr => ∃ (k : Nat) (a : Int), k ≤ n ∧ 0 ≤ a ∧ a ≤ k * 100000 ∧ iv = .int .i64 k ∧ av = .int .i64 a ∧ Hid (totF (M.drop k) a v = (X : Int)) ∧ Below w2.heap.size w2 wr) (fun _ iv _ => n - (intOf iv).toNat)
  case atStart => exact ⟨0, 0, Nat.zero_le _, by omega, by omega, rfl, rfl, HX, Below.refl _ _⟩
  case round =>
    obtain ⟨k, a, hk, ha0, ha1, rfl, rfl, HJ, hbr⟩ := hrel
    have hbz := hbr.size
    by_cases hlt : k < n
    · obtain ⟨b, oo, rfl, hbB, g1, g2, g3⟩ := (HR.out.below hbr) k (by rw [← HN.out]; exact hlt)
      have HS := Lib.hid (totF_drop M k (by rw [← HN.out]; exact hlt) a v)
      have hx3 := HB.out (M[k]'(by rw [← HN.out]; exact hlt)) (List.getElem_mem _)
      obtain ⟨x, hx⟩ : ∃ x, x = M[k]'(by rw [← HN.out]; exact hlt) := ⟨_, rfl⟩
      rw [← hx] at g1 g2 g3 HS hx3
      clear hx
      obtain ⟨x0, x1, x2⟩ := x
      simp only at g1 g2 g3 HS hx3
      obtain ⟨hx0, hx01, hx1⟩ := hx3
      have hbA := hbr.alloc hbr.size (.cells #[.int .i64 x0, .int .i64 x1, .int .i64 x2] 31)
      by_cases hxv : x2 = v
      · have HV : Hid (totF (M.drop (k + 1)) (a + (x1 - x0)) v = (X : Int)) := Lib.hid (by rw [← HJ.out, HS.out, if_pos hxv])
        have hq1 : (x2 == v) = true := by simpa using hxv
        have hw1 : IntKind.i64.wrap (x1 - x0) = x1 - x0 := IntWalk.i64_in _ (by omega)
        have hw2 : IntKind.i64.wrap (a + (x1 - x0)) = a + (x1 - x0) := IntWalk.i64_in _ (by omega)
        clear HS hxv
        go_wp2
        go_roundw
        case rel => exact ⟨k + 1, a + (x1 - x0), by omega, by omega, by omega, by go_num, rfl, HV, hbA⟩
        case measure => simp [intOf]; omega
      · have HV : Hid (totF (M.drop (k + 1)) a v = (X : Int)) := Lib.hid (by rw [← HJ.out, HS.out, if_neg hxv])
        have hq1 : (x2 == v) = false := by simpa using hxv
        clear HS hxv
        go_wp2
        go_roundw
        case rel => exact ⟨k + 1, a, by omega, by omega, by omega, by go_num, rfl, HV, hbA⟩
        case measure => simp [intOf]; omega
    · have hkn : k = n := by omega
      subst hkn
      have hXa : a = (X : Int) := by
        have := HJ.out
        rw [List.drop_of_length_le (by have := HN.out; omega)] at this
        exact this
      subst hXa
      go_wp2
      go_ret2
      exact ⟨rfl, bw.trans (hbr.mono bw.size)⟩
end Go.Proofs.Ytpcjklfdgjeamaa
