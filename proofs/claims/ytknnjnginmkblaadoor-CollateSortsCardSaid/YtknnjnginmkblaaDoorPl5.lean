/- Plainly: laws of the comparison. -/
import Derived.Test.YtknnjnginmkblaaDoorW27
namespace Go.Proofs.YtknnjnginmkblaaDoor

theorem accL_bd (k : Nat) : (accL.getD k (0, 0)).1 < 256 ∧ (accL.getD k (0, 0)).2 < 65536 := by
  by_cases hk : k < 30
  · exact acc_small k hk
  · have : accL[k]? = none := List.getElem?_eq_none (by show 30 ≤ k; omega)
    rw [List.getD_eq_getElem?_getD, this]
    decide
theorem accOf_bd (c : Nat) : (accOf c).1 < 300 ∧ (accOf c).2 < 65536 := by
  unfold accOf
  have h1 := accL_bd (c - 224)
  have h2 := accL_bd (c - 192)
  generalize accL.getD (c - 224) (0, 0) = x at h1 ⊢
  generalize accL.getD (c - 192) (0, 0) = y at h2 ⊢
  obtain ⟨x1, x2⟩ := x
  obtain ⟨y1, y2⟩ := y
  simp only at h1 h2 ⊢
  split
  · split
    · exact ⟨by show (0:Nat) < 300; omega, by show (0:Nat) < 65536; omega⟩
    · exact ⟨by show x1 + 32 < 300; omega, h1.2⟩
  · exact ⟨by show y1 < 300; omega, h2.2⟩
def OkE (e : El) : Prop := e.p < 16777216 ∧ e.s < 65536 ∧ e.t < 256
theorem base_ok {p : Nat} (h : p < 16777216) : OkE (baseE p) := by
  refine ⟨?_, ?_, ?_⟩
  · show p < 16777216; exact h
  · show 32 < 65536; omega
  · show 2 < 256; omega
theorem letter_ok {c : Nat} {u : Bool} (h : c < 1000) : OkE (letterE c u) := by
  unfold letterE
  split
  · exact base_ok (by omega)
  · refine ⟨by simp only; omega, by simp only; omega, ?_⟩
    simp only
    split <;> omega
theorem mark_ok {c : Nat} (h : c < 65536) : OkE (markE c) := ⟨by simp [markE], by simp only [markE]; omega, by simp [markE]⟩
theorem pointE_ok (c : Nat) (o : Opt) (hc : c ≤ 1114111) : ∀ e ∈ pointE c o, OkE e := by
  intro e he
  have ha := accOf_bd c
  have hb : OkE (baseE (65536 + c)) := base_ok (by omega)
  unfold pointE at he
  by_cases h1 : c < 32 ∨ 127 ≤ c ∧ c ≤ 159 ∨ c = 173
  · rw [if_pos h1] at he; simp at he
  rw [if_neg h1] at he
  by_cases h2 : digB c = true
  · rw [if_pos h2, List.mem_singleton] at he
    rw [he]; exact base_ok (by omega)
  rw [if_neg h2] at he
  by_cases h3 : letB c = true
  · rw [if_pos h3, List.mem_singleton] at he
    rw [he]
    refine letter_ok ?_
    unfold letB at h3
    simp at h3
    omega
  rw [if_neg h3] at he
  by_cases h4 : c < 127
  · rw [if_pos h4] at he
    split at he
    · simp at he
    · rw [List.mem_singleton] at he; rw [he]; exact base_ok (by omega)
  rw [if_neg h4] at he
  by_cases h5 : 768 ≤ c ∧ c ≤ 879
  · rw [if_pos h5, List.mem_singleton] at he
    rw [he]; exact mark_ok (by omega)
  rw [if_neg h5] at he
  by_cases h6 : c = 198
  · rw [if_pos h6] at he
    simp only [List.mem_cons, List.mem_nil_iff, or_false] at he
    rcases he with rfl | rfl <;> exact letter_ok (by decide)
  rw [if_neg h6] at he
  by_cases h7 : c = 230
  · rw [if_pos h7] at he
    simp only [List.mem_cons, List.mem_nil_iff, or_false] at he
    rcases he with rfl | rfl <;> exact letter_ok (by decide)
  rw [if_neg h7] at he
  by_cases h8 : c = 223
  · rw [if_pos h8] at he
    simp only [List.mem_cons, List.mem_nil_iff, or_false] at he
    rcases he with rfl | rfl <;> exact letter_ok (by decide)
  rw [if_neg h8] at he
  by_cases h9 : c = 255
  · rw [if_pos h9] at he
    simp only [List.mem_cons, List.mem_nil_iff, or_false] at he
    rcases he with rfl | rfl
    · exact letter_ok (by decide)
    · exact mark_ok (by decide)
  rw [if_neg h9] at he
  by_cases h10 : 192 ≤ c ∧ c ≤ 253 ∧ c ≠ 222
  · rw [if_pos h10] at he
    split at he
    · rw [List.mem_singleton] at he; rw [he]; exact hb
    · simp only [List.mem_cons, List.mem_nil_iff, or_false] at he
      rcases he with rfl | rfl
      · exact letter_ok (by omega)
      · exact mark_ok ha.2
  rw [if_neg h10, List.mem_singleton] at he
  rw [he]; exact hb
theorem numberE_ok (l : List Nat) (h : ∀ c ∈ l, c ≤ 1114111) (hl : l.length ≤ 1048576) : ∀ e ∈ numberE l, OkE e := by
  intro e he
  unfold numberE at he
  rcases List.mem_cons.1 he with rfl | he
  · have := trim0_len l
    exact base_ok (by omega)
  · obtain ⟨c, hc, rfl⟩ := List.mem_map.1 he
    have := h c (trim0_mem l c hc)
    exact base_ok (by omega)
theorem elemsL_ok (o : Opt) : ∀ (f : Nat) (l : List Nat), (∀ c ∈ l, c ≤ 1114111) → l.length ≤ 1000000 → ∀ e ∈ elemsL o f l, OkE e
  | 0, _, _, _, e, he => by simp [elemsL] at he
  | _ + 1, [], _, _, e, he => by simp [elemsL] at he
  | f + 1, c :: r, h, hl, e, he => by
    have htw : ∀ x ∈ r.takeWhile digB, x ∈ r := fun x hx => (List.takeWhile_sublist _).subset hx
    have hdw : ∀ x ∈ r.dropWhile digB, x ∈ r := fun x hx => (List.dropWhile_sublist _).subset hx
    have l1 := tw_dw r
    simp only [List.length_cons] at hl
    simp only [elemsL] at he
    split at he
    · rcases List.mem_append.1 he with he | he
      · refine numberE_ok _ (fun x hx => ?_) (by rw [List.length_cons]; omega) e he
        rcases List.mem_cons.1 hx with rfl | hx
        · exact h _ (by simp)
        · exact h x (by simp [htw x hx])
      · exact elemsL_ok o f _ (fun x hx => h x (by simp [hdw x hx])) (by omega) e he
    · rcases List.mem_append.1 he with he | he
      · exact pointE_ok c o (h c (by simp)) e he
      · exact elemsL_ok o f _ (fun x hx => h x (by simp [hx])) (by omega) e he
theorem ptL_bd : ∀ (n : Nat) (l : List Nat), l.length ≤ n → (∀ b ∈ l, b < 256) → (pts l).isSome = true → ∀ c ∈ ptL l, c ≤ 1114111
  | n, [], _, _, _, c, h => by rw [ptL_nil] at h; simp at h
  | 0, _ :: _, h, _, _, _, _ => by simp at h
  | n + 1, c :: r, h, hb, hv, x, hx => by
    obtain ⟨p, m, hd⟩ := pts_dec hv (by simp)
    obtain ⟨h1, h2⟩ := pts_some hd hv
    obtain ⟨m1, m2, _⟩ := dec1_size hd
    rw [h2] at hx
    rcases List.mem_cons.1 hx with rfl | hx
    · exact dec1_lt hb hd
    · exact ptL_bd n ((c :: r).drop m) (by rw [List.length_drop]; omega) (fun b hb' => hb b (List.mem_of_mem_drop hb')) h1 x hx
theorem elS_bd {o : Opt} {s : ByteArray} (hs : s.size ≤ 4096) (hv : (pts (bytesN s)).isSome = true) : Bd (elS o s) := by
  have h1 := ptL_bd _ (bytesN s) (Nat.le_refl _) (bytesN_lt s) hv
  have h2 := ptL_len _ (bytesN s) (Nat.le_refl _) hv
  rw [bytesN_length] at h2
  have h3 : ∀ e ∈ elS o s, OkE e := elemsL_ok o _ _ h1 (by omega)
  exact ⟨fun e he => (h3 e he).1, fun e he => (h3 e he).2.1, fun e he => (h3 e he).2.2⟩
theorem errC_sub {o : Opt} {l l' : List ByteArray} (h : errC o l = 0) (hs : ∀ x ∈ l', x ∈ l) : errC o l' = 0 := by
  obtain ⟨hst, hok⟩ := errC_ok h
  have hc : chkO o.strength = 0 := if_neg (by omega)
  have hall : ∀ (m : List ByteArray), (∀ x ∈ m, x ∈ l) → chkS m = 0 := by
    intro m
    induction m with
    | nil => intro _; rfl
    | cons t r ih =>
      intro hm
      obtain ⟨h1, h2⟩ := hok t (hm t (by simp))
      simp only [chkS]
      rw [if_neg (by omega), if_pos h2]
      exact ih fun x hx => hm x (by simp [hx])
  unfold errC
  rw [if_pos hc]
  exact hall l' hs
/-- The comparison is the bytewise comparison of the keys. -/
theorem cmpR_key {o : Opt} {a b : ByteArray} (h : errC o [a, b] = 0) : cmpR o a b = ordL (keyR o a) (keyR o b) := by
  obtain ⟨hst, hok⟩ := errC_ok h
  obtain ⟨a1, a2⟩ := hok a (by simp)
  obtain ⟨b1, b2⟩ := hok b (by simp)
  unfold cmpR keyR
  rw [if_pos h, if_pos (errC_sub h (by simp)), if_pos (errC_sub h (by simp))]
  exact (key_ord ⟨by omega, by omega⟩ (elS_bd a1 a2) (elS_bd b1 b2)).symm
theorem cmpR_full {o : Opt} {a b : ByteArray} (h : errC o [a, b] = 0) (h4 : o.strength = 4) : cmpR o a b = 0 ↔ a = b := by
  constructor
  · intro h0
    unfold cmpR at h0
    rw [if_pos h, h4] at h0
    have e : ordL (bytesN a) (bytesN b) = 0 := by
      unfold cmpL at h0
      split at h0
      · rename_i hh; exact absurd h0 hh
      · split at h0
        · rename_i hh; exact absurd h0 hh.2
        · split at h0
          · rename_i hh; exact absurd h0 hh.2
          · exact h0
    exact bytesN_inj (ordL_eq _ _ e)
  · rintro rfl
    rw [cmpR_key h, ordL_refl]
structure CmpLaws (o : Opt) (a b c : ByteArray) : Prop where
  back : cmpR o b a = - cmpR o a b
  full : o.strength = 4 → (cmpR o a b = 0 ↔ a = b)
  rx : cmpR o a b = -1 ∨ cmpR o a b = 0 ∨ cmpR o a b = 1
  ry : cmpR o b c = -1 ∨ cmpR o b c = 0 ∨ cmpR o b c = 1
  rz : cmpR o a c = -1 ∨ cmpR o a c = 0 ∨ cmpR o a c = 1
  down : cmpR o a b ≤ 0 → cmpR o b c ≤ 0 → cmpR o a c = min (cmpR o a b) (cmpR o b c)
  up : 0 ≤ cmpR o a b → 0 ≤ cmpR o b c → cmpR o a c = max (cmpR o a b) (cmpR o b c)
theorem cmp_laws {o : Opt} {a b c : ByteArray} (h : errC o [a, b, c] = 0) : CmpLaws o a b c := by
  have hab : errC o [a, b] = 0 := errC_sub h (by simp)
  have hbc : errC o [b, c] = 0 := errC_sub h (by simp)
  have hac : errC o [a, c] = 0 := errC_sub h (by simp)
  have hba : errC o [b, a] = 0 := errC_sub h (by simp)
  have e1 := cmpR_key hab
  have e2 := cmpR_key hbc
  have e3 := cmpR_key hac
  have e4 := cmpR_key hba
  have hx := ordL_range (keyR o a) (keyR o b)
  have hy := ordL_range (keyR o b) (keyR o c)
  have hz := ordL_range (keyR o a) (keyR o c)
  have a1 := ordL_anti (keyR o a) (keyR o b)
  have a2 := ordL_anti (keyR o b) (keyR o c)
  have a3 := ordL_anti (keyR o a) (keyR o c)
  have q1 := ordL_eq (keyR o a) (keyR o b)
  have q2 := ordL_eq (keyR o b) (keyR o c)
  have t1 := ordL_trans (keyR o a) (keyR o b) (keyR o c)
  have t2 := ordL_trans (keyR o c) (keyR o b) (keyR o a)
  refine ⟨by rw [e4, e1, a1], cmpR_full hab, by rw [e1]; exact hx, by rw [e2]; exact hy, by rw [e3]; exact hz, fun g1 g2 => ?_, fun g1 g2 => ?_⟩
  · rw [e1] at g1 ⊢
    rw [e2] at g2 ⊢
    rw [e3]
    by_cases x0 : ordL (keyR o a) (keyR o b) = 0
    · rw [x0, q1 x0]; omega
    by_cases y0 : ordL (keyR o b) (keyR o c) = 0
    · rw [y0, ← q2 y0]; omega
    have := t1 (by omega) (by omega)
    omega
  · rw [e1] at g1 ⊢
    rw [e2] at g2 ⊢
    rw [e3]
    by_cases x0 : ordL (keyR o a) (keyR o b) = 0
    · rw [x0, q1 x0]; omega
    by_cases y0 : ordL (keyR o b) (keyR o c) = 0
    · rw [y0, ← q2 y0]; omega
    have := t2 (by omega) (by omega)
    omega
/-- What differs for a strength differs so for the next one. -/
theorem cmpL_next {k : Nat} {a b : List Nat} {x y : List El} (hk : k < 4) (h : cmpL k a b x y ≠ 0) : cmpL (k + 1) a b x y = cmpL k a b x y := by
  unfold cmpL at h ⊢
  by_cases h1 : ordL (wts El.p x) (wts El.p y) ≠ 0
  · rw [if_pos h1, if_pos h1]
  rw [if_neg h1] at h ⊢
  rw [if_neg h1]
  by_cases h2 : 2 ≤ k ∧ ordL (wts El.s x) (wts El.s y) ≠ 0
  · rw [if_pos h2, if_pos ⟨by omega, h2.2⟩]
  rw [if_neg h2] at h ⊢
  by_cases h3 : 3 ≤ k ∧ ordL (wts El.t x) (wts El.t y) ≠ 0
  · rw [if_pos h3]
    rw [if_neg (fun hh => h2 ⟨by omega, hh.2⟩), if_pos ⟨by omega, h3.2⟩]
  rw [if_neg h3, if_neg (by omega)] at h
  exact absurd rfl h
theorem pointE_st (c : Nat) (k k' : Int) (n i u : Bool) : pointE c ⟨k, n, i, u⟩ = pointE c ⟨k', n, i, u⟩ := rfl
theorem elemsL_st (k k' : Int) (n i u : Bool) : ∀ (f : Nat) (l : List Nat), elemsL ⟨k, n, i, u⟩ f l = elemsL ⟨k', n, i, u⟩ f l
  | 0, _ => rfl
  | _ + 1, [] => rfl
  | f + 1, c :: r => by
    simp only [elemsL]
    rw [elemsL_st k k' n i u f, elemsL_st k k' n i u f, pointE_st c k k']
theorem elS_st (k k' : Int) (n i u : Bool) (s : ByteArray) : elS ⟨k, n, i, u⟩ s = elS ⟨k', n, i, u⟩ s := elemsL_st k k' n i u _ _
end Go.Proofs.YtknnjnginmkblaaDoor
