/- Walks: the closures of Splice and Add, and what changes a map. -/
import Derived.Test.YtpcjklfdgjeamaaW5
import Derived.Test.YtpcjklfdgjeamaaPl2
namespace Go.Proofs.Ytpcjklfdgjeamaa
open Go.RowKit

/-- A slice with one element that was just made. -/
theorem own_one {α : Type} {enc : α → List Value} {sz : Nat} {E : TypeId} (w : World) (x : α) (he : (enc x).length = sz) (base : Nat) (hb : base ≤ w.heap.size) :
    Own enc sz E (w.alloc (.cells (enc x).toArray E)) base (.slice (some ⟨w.heap.size, 0, none⟩) 1 1) [x] := by
  unfold Own
  refine ⟨by simp [he], .inr ⟨w.heap.size, 1, _, rfl, hb, heap_alloc_new w _, Nat.le_refl _, by simp [maxLen], by simp [he], ?_⟩⟩
  rw [List.flatMap_cons, List.flatMap_nil, List.append_nil, List.length_singleton, Nat.one_mul]
  exact List.take_of_length_le (by simp [he])
/-- An element of an own slice: its cells. -/
theorem own_at {W : World} {B : Nat} {v : Value} {l : List Rn} (h : OwnR W B v l) (k : Nat) (hk : k < l.length) :
    ∃ g cap, v = .slice (some ⟨g, 0, none⟩) l.length cap ∧ l.length ≤ cap ∧ cap ≤ 9223372036854775807 ∧ B ≤ g ∧ g < W.heap.size ∧
      W.cell? ⟨g, k * 3, none⟩ = some (.int .i64 l[k].1) ∧ W.cell? ⟨g, k * 3 + 1, none⟩ = some (.int .i64 l[k].2.1) ∧ W.cell? ⟨g, k * 3 + 2, none⟩ = some (.int .i64 l[k].2.2) ∧ ∀ i, W.frozen? ⟨g, i, none⟩ = false := by
  obtain ⟨g, cap, rfl, hkc, hcm⟩ := h.some (by omega)
  obtain ⟨cur, hblk, hg1, hg2⟩ := h.blk
  obtain ⟨_, _, he1, _, _, hcl⟩ := h.sl encR_length
  injection he1 with he1 _ he2
  subst he1 he2
  obtain ⟨g', o', he1, _, hcl⟩ := hcl (by omega)
  injection he1 with he1
  injection he1 with he1 he2
  subst he1 he2
  have c0 := hcl k l[k] (by simp) 0 _ rfl
  have c1 := hcl k l[k] (by simp) 1 _ rfl
  have c2 := hcl k l[k] (by simp) 2 _ rfl
  simp only [Nat.zero_add, Nat.add_zero] at c0 c1 c2
  exact ⟨g, cap, rfl, hkc, by unfold maxLen at hcm; omega, hg1, hg2, c0, c1, c2, fun i => blk_free hblk i⟩

set_option maxHeartbeats 400000 in
theorem spliceF_any (v : Value) (pi pv : Nat) (ins val : Int) (w : World) (h1 : w.cell? ⟨pi, 0, none⟩ = some (.int .i64 ins)) (h2 : w.cell? ⟨pv, 0, none⟩ = some (.int .i64 val)) :
    Calls Try.prog 45 #[v, .pointer (some ⟨pi, 0, none⟩), .pointer (some ⟨pv, 0, none⟩)] w fun e w' => ∃ v', e = .returned v' ∧ OwnR w' w.heap.size v' (spM ins val) ∧ Below w.heap.size w w' := by
  by_cases h0 : ins = 0
  · subst h0
    go_enter Try.func45, Try.ntmps45
    go_wp2
    go_ret
    exact ⟨_, rfl, Own.nil _ _, Below.refl _ _⟩
  · have hne : (ins == 0) = false := by simpa using h0
    have HO := Lib.hid (own_one (enc := encR) (sz := 3) (E := 31) w (0, ins, val) rfl w.heap.size (Nat.le_refl _))
    have HS : Hid (spM ins val = [(0, ins, val)]) := Lib.hid (by unfold spM; rw [if_neg h0])
    clear h0
    go_enter Try.func45, Try.ntmps45
    go_wp2
    go_ret
    exact ⟨_, rfl, by rw [HS.out]; exact HO.out, (Below.refl _ _).alloc (Nat.le_refl _) _⟩

theorem addRs_step (d : Int) (M : List Rn) (k : Nat) (h : k < M.length) :
    ((addRs d (M.take k)) ++ M.drop k).set k (M[k].1, M[k].2.1, wr64 (M[k].2.2 + d)) = (addRs d (M.take (k + 1))) ++ M.drop (k + 1) := by
  have hl : (addRs d (M.take k)).length = k := by simp [addRs]; omega
  rw [List.set_append_right _ _ (by omega), hl, Nat.sub_self, List.drop_eq_getElem_cons h, List.set_cons_zero, List.take_succ_eq_append_getElem h]
  unfold addRs
  rw [List.map_append, List.append_assoc]
  rfl
theorem addRs_mid (d : Int) (M : List Rn) (k : Nat) (h : k < M.length) : ((addRs d (M.take k)) ++ M.drop k)[k]'(by simp [addRs]; omega) = M[k] := by
  have hl : (addRs d (M.take k)).length = k := by simp [addRs]; omega
  rw [List.getElem_append_right (by omega)]
  simp [hl]

set_option maxHeartbeats 1000000 in
theorem addF_any (v : Value) (M : List Rn) (pd : Nat) (d : Int) (B : Nat) (w : World) (h : OwnR w B v M) (h1 : w.cell? ⟨pd, 0, none⟩ = some (.int .i64 d)) (hp : pd < B) :
    Calls Try.prog 50 #[v, .pointer (some ⟨pd, 0, none⟩)] w fun e w' => ∃ v', e = .returned v' ∧ OwnR w' B v' (addRs d M) ∧ Below B w w' := by
  obtain ⟨A, c, rfl, hn, hc⟩ := h.shape
  obtain ⟨n, hne⟩ : ∃ n, n = M.length := ⟨_, rfl⟩
  rw [← hne] at h hn ⊢
  have HN := Lib.hid hne
  clear hne
  have hcm : c ≤ 9223372036854775807 := by unfold maxLen at hc; omega
  go_enter Try.func50, Try.ntmps50
  go_wp2
  go_loopw [4, 7] (fun _ iv wr => ∃ k : Nat, k ≤ n ∧ iv = .int .i64 k ∧ OwnR wr B (.slice A n c) (addRs d (M.take k) ++ M.drop k) ∧ Below B w wr) (fun _ iv _ => n - (intOf iv).toNat)
  case atStart => exact ⟨0, Nat.zero_le _, rfl, by simpa [addRs] using h, Below.refl _ _⟩
  case round =>
    clear h
    obtain ⟨k, hk, rfl, hown, hb⟩ := hrel
    by_cases hlt : k < n
    · have hkM : k < M.length := by rw [← HN.out]; exact hlt
      have hM1 := addRs_mid d M k hkM
      have hM2 := addRs_step d M k hkM
      have hll : (addRs d (M.take k) ++ M.drop k).length = n := by rw [HN.out]; simp [addRs]; omega
      obtain ⟨g, cap, he, hlc, q1, hg1, q2, q3, q4, c2, hfr⟩ := own_at hown k (by omega)
      clear q1 q2 q3 q4
      rw [hM1] at c2
      injection he with he1 he2 he3
      subst he1
      have hset := hown.set encR_length k 2 (.int .i64 (wr64 (M[k].2.2 + d))) (M[k].1, M[k].2.1, wr64 (M[k].2.2 + d)) (by omega) (by omega) (by rw [hM1]; rfl)
      rw [hM2] at hset
      have f2 := hfr (k * 3 + 2)
      have cd : wr.cell? ⟨pd, 0, none⟩ = some (.int .i64 d) := (hb.cell (p := ⟨pd, 0, none⟩) hp).trans h1
      obtain ⟨x, hx⟩ : ∃ x, x = M[k].2.2 := ⟨_, rfl⟩
      rw [← hx] at hset c2
      have HS := Lib.hid hset
      have HB := Lib.hid (hb.setCell (p := ⟨g, k * 3 + 2, none⟩) hg1 (.int .i64 (wr64 (x + d))))
      have hw : IntKind.i64.wrap (x + d) = wr64 (x + d) := rfl
      clear hset hM1 hM2 hown hll hx hfr he2 he3 hlc
      go_wp2
      go_region
      all_goals
        go_wp2
        go_roundw
        case rel => exact ⟨k + 1, by omega, by go_num, HS.out, HB.out.drew⟩
        case measure => simp [intOf]; omega
    · have HK : Hid (addRs d (M.take k) ++ M.drop k = addRs d M) := Lib.hid (by rw [List.take_of_length_le (by have := HN.out; omega), List.drop_of_length_le (by have := HN.out; omega), List.append_nil])
      go_wp2
      go_ret
      exact ⟨_, rfl, by rw [← HK.out]; exact hown, hb⟩
end Go.Proofs.Ytpcjklfdgjeamaa
