/- Walks: headings of the reference. -/
import Derived.Test.YtknnjnginmkblaaDoorI1
import Derived.Test.YtknnjnginmkblaaDoorR6
namespace Go.Proofs.YtknnjnginmkblaaDoor
open Go.RowKit

/-- Primary weights of letters are multiples of 4. -/
def PQ (p : Nat) : Prop := p < 32768 ∨ (32768 ≤ p ∧ p ≤ 32868 ∧ p % 4 = 0) ∨ 32868 < p
theorem letter_pq (c : Nat) (u : Bool) : PQ (letterE c u).p := by
  have h : ∃ k, (letterE c u).p = 32768 + 4 * k := by
    unfold letterE
    split
    · exact ⟨c - 97, rfl⟩
    · exact ⟨c - 65, rfl⟩
  obtain ⟨k, hk⟩ := h
  rw [hk]
  unfold PQ
  omega
theorem mark_pq (c : Nat) : PQ (markE c).p := .inl (by show (0 : Nat) < 32768; omega)
theorem base_pq {p : Nat} (h : p < 32768 ∨ 32868 < p) : PQ (baseE p).p := by
  show PQ p
  rcases h with h | h
  · exact .inl h
  · exact .inr (.inr h)
theorem pointE_pq (c : Nat) (o : Opt) : ∀ e ∈ pointE c o, PQ e.p := by
  intro e he
  have hb : PQ (baseE (65536 + c)).p := base_pq (.inr (by omega))
  unfold pointE at he
  by_cases h1 : c < 32 ∨ 127 ≤ c ∧ c ≤ 159 ∨ c = 173
  · rw [if_pos h1] at he; simp at he
  rw [if_neg h1] at he
  by_cases h2 : digB c = true
  · rw [if_pos h2, List.mem_singleton] at he
    rw [he]
    unfold digB at h2
    simp at h2
    exact base_pq (.inl (by omega))
  rw [if_neg h2] at he
  by_cases h3 : letB c = true
  · rw [if_pos h3, List.mem_singleton] at he
    rw [he]; exact letter_pq _ _
  rw [if_neg h3] at he
  by_cases h4 : c < 127
  · rw [if_pos h4] at he
    split at he
    · simp at he
    · rw [List.mem_singleton] at he; rw [he]; exact base_pq (.inl (by omega))
  rw [if_neg h4] at he
  by_cases h5 : 768 ≤ c ∧ c ≤ 879
  · rw [if_pos h5, List.mem_singleton] at he
    rw [he]; exact mark_pq _
  rw [if_neg h5] at he
  by_cases h6 : c = 198
  · rw [if_pos h6] at he
    simp only [List.mem_cons, List.mem_nil_iff, or_false] at he
    rcases he with rfl | rfl <;> exact letter_pq _ _
  rw [if_neg h6] at he
  by_cases h7 : c = 230
  · rw [if_pos h7] at he
    simp only [List.mem_cons, List.mem_nil_iff, or_false] at he
    rcases he with rfl | rfl <;> exact letter_pq _ _
  rw [if_neg h7] at he
  by_cases h8 : c = 223
  · rw [if_pos h8] at he
    simp only [List.mem_cons, List.mem_nil_iff, or_false] at he
    rcases he with rfl | rfl <;> exact letter_pq _ _
  rw [if_neg h8] at he
  by_cases h9 : c = 255
  · rw [if_pos h9] at he
    simp only [List.mem_cons, List.mem_nil_iff, or_false] at he
    rcases he with rfl | rfl
    · exact letter_pq _ _
    · exact mark_pq _
  rw [if_neg h9] at he
  by_cases h10 : 192 ≤ c ∧ c ≤ 253 ∧ c ≠ 222
  · rw [if_pos h10] at he
    split at he
    · rw [List.mem_singleton] at he; rw [he]; exact hb
    · simp only [List.mem_cons, List.mem_nil_iff, or_false] at he
      rcases he with rfl | rfl
      · exact letter_pq _ _
      · exact mark_pq _
  rw [if_neg h10, List.mem_singleton] at he
  rw [he]; exact hb
theorem numberE_pq (l : List Nat) (h : ∀ c ∈ l, digB c = true) (hl : l.length ≤ 30000) : ∀ e ∈ numberE l, PQ e.p := by
  intro e he
  unfold numberE at he
  rcases List.mem_cons.1 he with rfl | he
  · have := trim0_len l
    exact base_pq (.inl (by omega))
  · obtain ⟨c, hc, rfl⟩ := List.mem_map.1 he
    have := h c (trim0_mem l c hc)
    unfold digB at this
    simp at this
    exact base_pq (.inl (by omega))
theorem tw_dig : ∀ (l : List Nat), ∀ x ∈ l.takeWhile digB, digB x = true
  | [], x, h => by simp at h
  | c :: r, x, h => by
    by_cases hc : digB c = true
    · rw [List.takeWhile_cons_of_pos hc] at h
      rcases List.mem_cons.1 h with rfl | h
      · exact hc
      · exact tw_dig r x h
    · rw [List.takeWhile_cons_of_neg hc] at h; simp at h
theorem elemsL_pq (o : Opt) : ∀ (f : Nat) (l : List Nat), l.length ≤ 20000 → ∀ e ∈ elemsL o f l, PQ e.p
  | 0, _, _, e, he => by simp [elemsL] at he
  | _ + 1, [], _, e, he => by simp [elemsL] at he
  | f + 1, c :: r, hl, e, he => by
    have l1 := tw_dw r
    simp only [List.length_cons] at hl
    simp only [elemsL] at he
    split at he
    · rename_i hc
      rcases List.mem_append.1 he with he | he
      · refine numberE_pq _ (fun x hx => ?_) (by rw [List.length_cons]; omega) e he
        rcases List.mem_cons.1 hx with rfl | hx
        · exact hc.2
        · exact tw_dig r x hx
      · exact elemsL_pq o f _ (by omega) e he
    · rcases List.mem_append.1 he with he | he
      · exact pointE_pq c o e he
      · exact elemsL_pq o f _ (by omega) e he
theorem init_pq {o : Opt} {s : ByteArray} (hs : s.size ≤ 4096) (hv : (pts (bytesN s)).isSome = true) : ∀ p ∈ wts El.p (elS o s), PQ p := by
  intro p hp
  have h2 := ptL_len _ (bytesN s) (Nat.le_refl _) hv
  rw [bytesN_length] at h2
  unfold wts at hp
  obtain ⟨e, he, rfl⟩ := List.mem_map.1 (List.mem_filter.1 hp).1
  exact elemsL_pq o _ _ (by omega) e he
theorem letter_pu (c : Nat) (u v : Bool) : (letterE c u).p = (letterE c v).p := by
  unfold letterE
  split <;> rfl
theorem pointE_pu (c : Nat) (k k' : Int) (n i u v : Bool) : (pointE c ⟨k, n, i, u⟩).map El.p = (pointE c ⟨k', n, i, v⟩).map El.p := by
  unfold pointE
  simp only [apply_ite (List.map El.p), List.map_cons, List.map_nil, letter_pu _ u v]
theorem elemsL_pu (k k' : Int) (n i u v : Bool) : ∀ (f : Nat) (l : List Nat), (elemsL ⟨k, n, i, u⟩ f l).map El.p = (elemsL ⟨k', n, i, v⟩ f l).map El.p
  | 0, _ => rfl
  | _ + 1, [] => rfl
  | f + 1, c :: r => by
    simp only [elemsL]
    split
    · rw [List.map_append, List.map_append, elemsL_pu k k' n i u v f]
    · rw [List.map_append, List.map_append, elemsL_pu k k' n i u v f, pointE_pu c k k' n i u v]
theorem wts_pu (k k' : Int) (n i u v : Bool) (s : ByteArray) : wts El.p (elS ⟨k, n, i, u⟩ s) = wts El.p (elS ⟨k', n, i, v⟩ s) := by
  unfold wts elS elems
  rw [elemsL_pu k k' n i u v]
theorem initR_pu {k k' : Int} {n i u v : Bool} {s : ByteArray} (hk : 1 ≤ k' ∧ k' ≤ 4) (h : errC ⟨k, n, i, u⟩ [s] = 0) : initR ⟨k', n, i, v⟩ s = initR ⟨k, n, i, u⟩ s ∧ errC ⟨k', n, i, v⟩ [s] = 0 := by
  obtain ⟨hst, _⟩ := errC_ok h
  have h1 : chkO k = 0 := if_neg (by simp only at hst; omega)
  have h2 : chkO k' = 0 := if_neg (by omega)
  have h3 : errC ⟨k', n, i, v⟩ [s] = 0 := by
    unfold errC at h ⊢
    simp only at h ⊢
    rw [if_pos h1] at h
    rw [if_pos h2]
    exact h
  refine ⟨?_, h3⟩
  unfold initR
  rw [if_pos h, if_pos h3, wts_pu k' k n i v u]

set_option maxRecDepth 100000 in
set_option maxHeartbeats 8000000 in
theorem rinitial_lib (s : ByteArray) (o : Opt) (w : World) (hs1 : s.size ≤ 4096) (hs2 : (pts (bytesN s)).isSome = true) :
    Calls Tryd.prog 29 #[.string s, optV o] w (RkeyE w (initL (wts El.p (elS o s)))) := by
  obtain ⟨i0, hi, hz0, hz1, hz2⟩ := info_parts info3
  have CE : Hid (∀ w : World, Calls Tryd.prog 27 #[.string s, optV o] w (ElsE w (elS o s))) := Lib.hid (fun w => relements_lib s o w hs1 hs2)
  have hlx := elS_len (o := o) hs1 hs2
  have hpq := init_pq (o := o) hs1 hs2
  obtain ⟨R, hR⟩ : ∃ R, R = elS o s := ⟨_, rfl⟩
  rw [← hR] at CE hlx hpq ⊢
  have HPQ := Lib.hid hpq
  have hl2 : R.length ≤ 1048576 := by omega
  clear hR hs2 hpq hlx hs1
  obtain ⟨I, hI⟩ : ∃ I, I = initL (wts El.p R) := ⟨_, rfl⟩
  rw [← hI]
  have HIR := Lib.hid hI
  clear hI
  obtain ⟨st, num, ign, up⟩ := o
  change Hid (∀ w : World, Calls Tryd.prog 27 #[.string s, .agg #[.int .i64 st, .bool num, .bool ign, .bool up]] w (ElsE w R)) at CE
  show Calls Tryd.prog 29 #[.string s, .agg #[.int .i64 st, .bool num, .bool ign, .bool up]] w _
  go_enter Tryd.func29, Tryd.ntmps29
  go_wp2_with fail
  have b0 : Below w.heap.size w (w.alloc (.cells #[.int .i64 st, .bool num, .bool ign, .bool up] 31)) := (Below.refl w.heap.size w).alloc (Nat.le_refl _) _
  obtain ⟨w0, hw0⟩ : ∃ w0, w0 = w.alloc (.cells #[.int .i64 st, .bool num, .bool ign, .bool up] 31) := ⟨_, rfl⟩
  rw [← hw0] at b0 ⊢
  clear hw0
  refine (CE.out _).mono ?_
  rintro e w2 ⟨vx, rfl, hsx, b2⟩
  have bb2 : Below w.heap.size w w2 := b0.trans (b2.mono b0.size)
  clear b2 CE b0
  go_wp2_with fail
  refine (rweights_1 vx R w2 hsx hl2).mono ?_
  rintro e w3 ⟨v3, rfl, hO3, b3⟩
  have bb := bb2.trans (b3.mono bb2.size)
  have hS := hO3.sl encI_length
  clear b3 bb2 hsx hO3
  obtain ⟨P, hP⟩ : ∃ P, P = wts El.p R := ⟨_, rfl⟩
  rw [← hP] at HIR hS HPQ
  clear hP
  obtain ⟨A, c, rfl, hlc, hcm, _⟩ := id hS
  unfold maxLen at hcm
  cases hPP : P with
  | nil =>
    have HT : Hid (bytesN ⟨#[]⟩ = I) := Lib.hid (by rw [HIR.out, hPP]; rfl)
    subst hPP
    clear hS HIR HPQ
    go_wp2_with fail
    go_ret
    exact ⟨_, rfl, HT.out, bb⟩
  | cons p r =>
    obtain ⟨b, o, hA, hbB, c0⟩ := Ints.at hS 0 p (by rw [hPP]; rfl)
    subst hA
    rw [Nat.add_zero] at c0
    have hln : P.length = r.length + 1 := by rw [hPP]; rfl
    obtain ⟨n, hn⟩ : ∃ n, n = P.length := ⟨_, rfl⟩
    rw [← hn] at hlc hln
    have hn0 : 0 < n := by omega
    have hn0' : (0 : Int) < (n : Int) := by omega
    have dn : ((n : Int) == 0) = false := by rw [beq_eq_false_iff_ne]; omega
    have HII : Hid (I = initL (p :: r)) := Lib.hid (by rw [HIR.out, hPP])
    have hq : PQ p := HPQ.out p (by rw [hPP]; simp)
    rw [← hPP, ← hn]
    clear hS HIR hPP hln hn HPQ
    have hcase : (p < 512) ∨ (512 ≤ p ∧ p < 32768) ∨ (32768 ≤ p ∧ p ≤ 32868 ∧ p % 4 = 0) ∨ (32868 < p) := by unfold PQ at hq; omega
    clear hq
    rcases hcase with h | h | h | h
    · have t1 : decide (32768 ≤ (p : Int)) = false := by simp; omega
      have t2 : decide ((p : Int) ≤ 32868) = true := by simp; omega
      have t3 : decide (512 ≤ (p : Int)) = false := by simp; omega
      have t4 : decide ((p : Int) < 32768) = true := by simp; omega
      have HT : Hid (bytesN ⟨#[]⟩ = I) := Lib.hid (by rw [HII.out, i_nil p r (by omega) (by omega)]; rfl)
      clear HII
      go_wp2_with fail
      go_ret
      exact ⟨_, rfl, HT.out, bb⟩
    · have t1 : decide (32768 ≤ (p : Int)) = false := by simp; omega
      have t2 : decide ((p : Int) ≤ 32868) = true := by simp; omega
      have t3 : decide (512 ≤ (p : Int)) = true := by simp; omega
      have t4 : decide ((p : Int) < 32768) = true := by simp; omega
      have HT : Hid (bytesN ⟨#[48, 45, 57]⟩ = I) := Lib.hid (by rw [HII.out, i_num p r h]; rfl)
      clear HII
      go_wp2_with fail
      go_ret
      exact ⟨_, rfl, HT.out, bb⟩
    · obtain ⟨_, t1, t2⟩ := let_tests p h.1 h.2.1 h.2.2
      have t3 : decide (512 ≤ (p : Int)) = true := by rw [decide_eq_true_iff]; omega
      have t4 : decide ((p : Int) < 32768) = false := by rw [decide_eq_false_iff_not]; omega
      obtain ⟨d, q, y, hyb, H1⟩ := let_facts p r h.1 h.2.1 h.2.2
      clear h
      obtain ⟨e1, e2, e3, e4⟩ := H1.out
      have kc := conv_one w3 y hyb
      have HT : Hid (bytesN ⟨#[UInt8.ofNat y]⟩ = I) := Lib.hid (by rw [bytesN_one y hyb, HII.out, e4])
      clear e4 HII H1
      go_wp2_with fail
      go_ret
      exact ⟨_, rfl, HT.out, bb.alloc bb.size _⟩
    · have t1 : decide (32768 ≤ (p : Int)) = true := by simp; omega
      have t2 : decide ((p : Int) ≤ 32868) = false := by simp; omega
      have t3 : decide (512 ≤ (p : Int)) = true := by simp; omega
      have t4 : decide ((p : Int) < 32768) = false := by simp; omega
      have HT : Hid (bytesN ⟨#[]⟩ = I) := Lib.hid (by rw [HII.out, i_nil p r (by omega) (by omega)]; rfl)
      clear HII
      go_wp2_with fail
      go_ret
      exact ⟨_, rfl, HT.out, bb⟩

end Go.Proofs.YtknnjnginmkblaaDoor
