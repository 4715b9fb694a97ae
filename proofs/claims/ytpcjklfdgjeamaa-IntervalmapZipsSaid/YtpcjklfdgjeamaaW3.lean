/- Walks: the test of a range, the cut of a range. -/
import Derived.Test.YtpcjklfdgjeamaaW2
import Derived.Test.YtpcjklfdgjeamaaLib4
import Derived.Deep.RegionHeld3
namespace Go.Proofs.Ytpcjklfdgjeamaa
open Go.RowKit

/-- Is a range right? -/
def rightB (n p q : Int) : Bool := decide (0 ≤ p) && decide (p ≤ q) && decide (q ≤ n)

set_option maxHeartbeats 400000 in
theorem right_any (m : Nat) (R : List Rn) (p q : Int) (w : World) (h : MapAt w m R) :
    Calls Try.prog 40 #[.pointer (some ⟨m, 0, none⟩), .int .i64 p, .int .i64 q] w fun e w' => e = .returned (.bool (rightB (endOf 0 R) p q)) ∧ ∃ n, w' = w.drewN n := by
  have H := Lib.hid (len_any m R w h)
  obtain ⟨n, hn⟩ : ∃ n, n = endOf 0 R := ⟨_, rfl⟩
  rw [← hn] at H ⊢
  clear hn h
  by_cases h1 : 0 ≤ p
  · by_cases h2 : p ≤ q
    · have HR : Hid (rightB n p q = decide (q ≤ n)) := Lib.hid (by simp [rightB, h1, h2])
      go_enter Try.func40, Try.ntmps40
      go_wp2_with fail
      refine H.out.mono ?_
      rintro e w1 ⟨rfl, k, rfl⟩
      go_wp2
      go_ret
      exact ⟨ret_bool HR.out.symm, k, rfl⟩
    · have HR : Hid (rightB n p q = false) := Lib.hid (by simp [rightB, h2])
      go_enter Try.func40, Try.ntmps40
      go_wp2
      go_ret
      exact ⟨ret_bool HR.out.symm, 0, rfl⟩
  · have HR : Hid (rightB n p q = false) := Lib.hid (by simp [rightB, h1])
    go_enter Try.func40, Try.ntmps40
    go_wp2
    go_ret
    exact ⟨ret_bool HR.out.symm, 0, rfl⟩

theorem setA_eq (p : Int) (M : List Rn) (h : 0 < M.length) : setA p M = M.set 0 (p, M[0].2.1, M[0].2.2) := by
  cases M with
  | nil => simp at h
  | cons r t => rfl
theorem setZ_eq (q : Int) : ∀ (M : List Rn) (h : 0 < M.length), setZ q M = M.set (M.length - 1) (M[M.length - 1].1, q, M[M.length - 1].2.2)
  | [], h => by simp at h
  | [r], _ => rfl
  | r :: u :: t, _ => by
    show r :: setZ q (u :: t) = _
    rw [setZ_eq q (u :: t) (by simp)]
    simp [List.set_cons_succ]

theorem cut_store {W : World} {B : Nat} {v : Value} {M : List Rn} (p q : Int) (hM : 0 < M.length) (h : OwnR W B v M) :
    ∃ g cap k y0 y1, v = .slice (some ⟨g, 0, none⟩) (k + 1) cap ∧ k < cap ∧ cap ≤ 9223372036854775807 ∧ W.cell? ⟨g, 0, none⟩ = some (.int .i64 y0) ∧ W.frozen? ⟨g, 0, none⟩ = false ∧
      (W.setCell ⟨g, 0, none⟩ (.int .i64 p)).cell? ⟨g, k * 3 + 1, none⟩ = some (.int .i64 y1) ∧ W.frozen? ⟨g, k * 3 + 1, none⟩ = false ∧ B ≤ g ∧
      OwnR ((W.setCell ⟨g, 0, none⟩ (.int .i64 p)).setCell ⟨g, k * 3 + 1, none⟩ (.int .i64 q)) B (.slice (some ⟨g, 0, none⟩) (k + 1) cap) (setZ q (setA p M)) := by
  obtain ⟨k, hk⟩ : ∃ k, M.length = k + 1 := ⟨M.length - 1, by omega⟩
  obtain ⟨g, cap, rfl, hkc, hcm⟩ := h.some hM
  obtain ⟨cur, hblk, hg1, hg2⟩ := h.blk
  obtain ⟨_, _, he1, _, _, hcl⟩ := h.sl encR_length
  injection he1 with he1 _ he2
  subst he1 he2
  obtain ⟨g', o', he1, _, hcl⟩ := hcl hM
  injection he1 with he1
  injection he1 with he1 he2
  subst he1 he2
  have c0 := hcl 0 M[0] (by simp) 0 _ rfl
  have c1 := hcl k (M[k]'(by omega)) (by simp) 1 _ rfl
  simp only [Nat.zero_add, Nat.zero_mul] at c0 c1
  have hs1 := h.set encR_length 0 0 (.int .i64 p) (p, M[0].2.1, M[0].2.2) hM (by omega) rfl
  have hA := setA_eq p M hM
  rw [← hA] at hs1
  have hl : (setA p M).length = k + 1 := by rw [hA, List.length_set, hk]
  have hs2 := hs1.set encR_length k 1 (.int .i64 q) (((setA p M)[k]'(by omega)).1, q, ((setA p M)[k]'(by omega)).2.2) (by omega) (by omega) rfl
  have hZ := setZ_eq q (setA p M) (by omega)
  have e : (setA p M).length - 1 = k := by omega
  simp only [e] at hZ
  rw [← hZ, hk] at hs2
  refine ⟨g, cap, k, M[0].1, (M[k]'(by omega)).2.1, by rw [hk], by omega, by unfold maxLen at hcm; omega, c0, blk_free hblk 0, ?_, blk_free hblk _, hg1, by simpa using hs2⟩
  rw [World.cell?_setCell_other _ _ _ _ (by intro e; injection e with _ e; omega)]
  exact c1

set_option maxHeartbeats 1000000 in
theorem cut_any (m : Nat) (R : List Rn) (p q : Int) (w : World) (h : MapAt w m R) (hc : Cont 0 R) (hp : 0 ≤ p) (hq : q ≤ endOf 0 R) (hl : R.length ≤ 2097152) (he : endOf 0 R ≤ 1048576) :
    Calls Try.prog 41 #[.pointer (some ⟨m, 0, none⟩), .int .i64 p, .int .i64 q] w fun e w' => ∃ v, e = .returned v ∧ OwnR w' w.heap.size v (cutL R p q) ∧ Below w.heap.size w w' := by
  by_cases hlt : p < q
  · obtain ⟨v, hm, hv⟩ := id h
    have h0 : w.cell? ⟨m, 0, none⟩ = some v := blk_cell hm 0
    have H := Lib.hid (fun W (hb : Below w.heap.size w W) o => find_any m R o W (h.below hb) hc hl)
    have hlo := find_lt R 0 p hc (by omega) hp
    have hhi := find_lt R 0 (q - 1) hc (by omega) (by omega)
    have hle : findI R p ≤ findI R (q - 1) := by
      have h1 := find_spec R 0 p (findI R p - 1) 
      rcases Nat.lt_or_ge (findI R (q - 1)) (findI R p) with hx | hx
      · have a1 := (find_spec R 0 p (findI R (q - 1)) hhi hc).2 hx
        have a2 := (find_spec R 0 (q - 1) (findI R (q - 1)) hhi hc)
        omega
      · exact hx
    obtain ⟨lo, hloe⟩ : ∃ lo, lo = findI R p := ⟨_, rfl⟩
    obtain ⟨hi, hhie⟩ : ∃ hi, hi = findI R (q - 1) := ⟨_, rfl⟩
    have HLO := Lib.hid hloe.symm
    have HHI := Lib.hid hhie.symm
    rw [← hloe] at hlo hle
    rw [← hhie] at hhi hle
    clear hloe hhie
    obtain ⟨A, c, rfl, hn, hcap, hA⟩ := id hv
    obtain ⟨b, o, rfl, _, _⟩ := hA (by omega)
    have HP := Lib.hid (hv.part (lo := lo) (hi := hi + 1) (by omega) (by omega))
    have HPL : Hid (((R.drop lo).take (hi + 1 - lo)).length ≤ 2097152) := Lib.hid (by rw [List.length_take, List.length_drop]; omega)
    have hx1 : 0 ≤ (hi : Int) + 1 ∧ (hi : Int) + 1 ≤ (c : Int) := by omega
    have hx2 : lo ≤ hi + 1 := by omega
    have hx3 : ¬ c = lo := by omega
    have hw1 : IntKind.i64.wrap (q - 1) = q - 1 := IntWalk.i64_in _ (by omega)
    have hw2 : IntKind.i64.wrap ((hi : Int) + 1) = (hi : Int) + 1 := IntWalk.i64_in _ (by omega)
    clear hm hv h hc
    go_enter Try.func41, Try.ntmps41
    go_wp2_with fail
    go_region_held3 (fun w' => w'.cell? ⟨m, 0, none⟩ = some (.slice (some ⟨b, o, none⟩) R.length c))
      (first
        | exact cell_over (cell_over h0 hb1) hb3
        | exact cell_over h0 hb1
        | exact cell_over h0 (Below.refl _ _).drew
        | exact h0)
      (first
        | (go_at_call 46; refine (H.out _ (by first | exact hb1 | exact (Below.refl _ _).drew) _).mono ?_; rintro e w1 ⟨rfl, hb1'⟩; have hb1 : Below w.heap.size w w1 := (by first | exact hb1.trans (hb1'.mono hb1.size) | exact ((Below.refl _ _).drew).trans hb1'); first | rw [HLO.out] | rw [HHI.out])
        | (go_at_call 35; refine (clone_any _ _ _ ((HP.out.below hb1).more hb1.size) HPL.out).mono ?_; rintro e w3 ⟨v', rfl, hown, hb3⟩))
    have hb3' : Below w.heap.size w w3 := hb1.trans (hb3.mono hb1.size)
    have hCut : Hid (cutL R p q = setZ q (setA p ((R.drop lo).take (hi + 1 - lo)))) := Lib.hid (by unfold cutL; rw [if_neg (by omega), HLO.out, HHI.out])
    obtain ⟨g, cap, k, y0, y1, rfl, hkcap, hcapm, c0, f0, c1, f1, hg, hF⟩ := cut_store p q (by rw [List.length_take, List.length_drop]; omega) (hown.lower hb1.size)
    have HF := Lib.hid hF
    have HB := Lib.hid ((hb3'.setCell (p := ⟨g, 0, none⟩) hg (.int .i64 p)).setCell (p := ⟨g, k * 3 + 1, none⟩) hg (.int .i64 q))
    clear hown hb1 hb3 h0 hx1 hx2 hx3 hw1 hw2 hF hA
    rw [← hCut.out] at HF
    clear hCut
    go_wp2
    go_ret
    exact ⟨_, rfl, HF.out, HB.out⟩
  · have HN : Hid (cutL R p q = []) := Lib.hid (by unfold cutL; rw [if_pos (by omega)])
    clear h hc
    go_enter Try.func41, Try.ntmps41
    go_wp2
    go_ret
    exact ⟨.slice none 0 0, rfl, by rw [HN.out]; exact Own.nil _ _, Below.refl _ _⟩
end Go.Proofs.Ytpcjklfdgjeamaa
