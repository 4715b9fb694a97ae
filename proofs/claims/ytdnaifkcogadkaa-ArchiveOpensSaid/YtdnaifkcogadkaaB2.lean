/- Plainly: an archive of which a byte is turned, or bytes are missing, or a byte is added, is not decoded. -/
import Derived.Test.YtdnaifkcogadkaaB1
namespace Go.Proofs.Ytdnaifkcogadkaa

section
variable {a m : List Nat} {c d : Nat}
theorem turn_other {i : Nat} (h : i ≠ a.length) : (a ++ [d] ++ m).getD i 0 = (a ++ [c] ++ m).getD i 0 := by
  simp only [List.getD_eq_getElem?_getD, List.append_assoc, List.singleton_append]
  by_cases hi : i < a.length
  · rw [List.getElem?_append_left hi, List.getElem?_append_left hi]
  · rw [List.getElem?_append_right (by omega), List.getElem?_append_right (by omega)]
    obtain ⟨j, hj⟩ : ∃ j, i - a.length = j + 1 := ⟨i - a.length - 1, by omega⟩
    rw [hj, List.getElem?_cons_succ, List.getElem?_cons_succ]
theorem turn_at : (a ++ [d] ++ m).getD a.length 0 = d := by
  simp [List.getD_eq_getElem?_getD]
theorem turn_get4 {j : Nat} (h : a.length < j ∨ j + 4 ≤ a.length) : get4 (a ++ [d] ++ m) j = get4 (a ++ [c] ++ m) j := by
  unfold get4
  rw [turn_other (c := c) (i := j) (by omega), turn_other (c := c) (i := j + 1) (by omega), turn_other (c := c) (i := j + 2) (by omega), turn_other (c := c) (i := j + 3) (by omega)]
theorem num4_inj {x0 x1 x2 x3 y0 y1 y2 y3 : Nat} (h0 : x0 < 256) (h1 : x1 < 256) (h2 : x2 < 256) (h3 : x3 < 256) (g0 : y0 < 256) (g1 : y1 < 256) (g2 : y2 < 256) (g3 : y3 < 256)
    (h : num4 x0 x1 x2 x3 = num4 y0 y1 y2 y3) : x0 = y0 ∧ x1 = y1 ∧ x2 = y2 ∧ x3 = y3 := by
  unfold num4 at h
  omega
theorem turn_get4_ne {j : Nat} (h1 : j ≤ a.length) (h2 : a.length < j + 4) (hl : ∀ b ∈ a ++ [c] ++ m, b < 256) (hl' : ∀ b ∈ a ++ [d] ++ m, b < 256) (hne : c ≠ d) : get4 (a ++ [d] ++ m) j ≠ get4 (a ++ [c] ++ m) j := by
  intro h
  unfold get4 at h
  obtain ⟨e0, e1, e2, e3⟩ := num4_inj (getD_lt hl' _) (getD_lt hl' _) (getD_lt hl' _) (getD_lt hl' _) (getD_lt hl _) (getD_lt hl _) (getD_lt hl _) (getD_lt hl _) h
  have hk : a.length = j ∨ a.length = j + 1 ∨ a.length = j + 2 ∨ a.length = j + 3 := by omega
  rcases hk with hk | hk | hk | hk
  · rw [← hk, turn_at, turn_at] at e0; exact hne e0.symm
  · rw [← hk, turn_at, turn_at] at e1; exact hne e1.symm
  · rw [← hk, turn_at, turn_at] at e2; exact hne e2.symm
  · rw [← hk, turn_at, turn_at] at e3; exact hne e3.symm
theorem turn_take_le {j : Nat} (h : j ≤ a.length) : (a ++ [d] ++ m).take j = (a ++ [c] ++ m).take j := by
  rw [List.append_assoc, List.append_assoc, List.take_append_of_le_length h, List.take_append_of_le_length h]
theorem turn_take_gt {j : Nat} (h : a.length < j) : (a ++ [d] ++ m).take j = a ++ [d] ++ m.take (j - a.length - 1) := by
  rw [List.take_append, List.take_of_length_le (by simp; omega)]
  congr 2
  simp; omega
end
theorem lt_of_app {l m : List Nat} (h : ∀ b ∈ l ++ m, b < 256) : (∀ b ∈ l, b < 256) ∧ ∀ b ∈ m, b < 256 :=
  ⟨fun b hb => h b (List.mem_append_left _ hb), fun b hb => h b (List.mem_append_right _ hb)⟩

theorem dat_turned : ∀ (q : List Prt) (pre a m : List Nat) (c d : Nat), dataL q = a ++ [c] ++ m → c ≠ d → d < 256 → (withOff pre.length (q.map entOf)).all (datOk (pre ++ (a ++ [d] ++ m))) = false
  | [], _, a, m, c, _, h, _, _ => by
    have := congrArg List.length h
    simp [dataL] at this
  | p :: r, pre, a, m, c, d, h, hne, hd => by
    rw [dataL_cons] at h
    simp only [List.map_cons, withOff, List.all_cons]
    by_cases hk : a.length < p.2.size
    · have e1 : datOf (pre ++ (a ++ [d] ++ m)) (entOf p, pre.length) = a ++ [d] ++ m.take (p.2.size - a.length - 1) := by
        unfold datOf
        rw [List.drop_left' rfl]
        exact turn_take_gt hk
      have e2 : bytesN p.2 = a ++ [c] ++ m.take (p.2.size - a.length - 1) := by
        rw [← turn_take_gt hk, ← h]
        exact (List.take_left' (bytesN_length _)).symm
      have hb := bytesN_lt p.2
      rw [e2] at hb
      obtain ⟨hb1, hb3⟩ := lt_of_app hb
      obtain ⟨hb1, hb2⟩ := lt_of_app hb1
      have hcr := crcL_turned a (m.take (p.2.size - a.length - 1)) c d (hb2 c (by simp)) hd hb1 hb3 hne
      have : datOk (pre ++ (a ++ [d] ++ m)) (entOf p, pre.length) = false := by
        unfold datOk
        rw [e1]
        show (_ == crcL (bytesN p.2)) = false
        rw [e2]
        simp only [beq_eq_false_iff_ne, ne_eq]
        exact fun e => hcr e.symm
      rw [this]; rfl
    · have ha : a = bytesN p.2 ++ a.drop p.2.size := by
        have h1 := congrArg (List.take p.2.size) h
        rw [List.take_left' (bytesN_length _), List.append_assoc, List.take_append_of_le_length (by omega)] at h1
        rw [h1, List.take_append_drop]
      have hr : dataL r = a.drop p.2.size ++ [c] ++ m := by
        have h1 := congrArg (List.drop p.2.size) h
        rw [List.drop_left' (bytesN_length _), List.append_assoc, List.drop_append_of_le_length (by omega)] at h1
        rw [h1, List.append_assoc]
      have ih := dat_turned r (pre ++ bytesN p.2) (a.drop p.2.size) m c d hr hne hd
      have e : pre ++ (a ++ [d] ++ m) = (pre ++ bytesN p.2) ++ (a.drop p.2.size ++ [d] ++ m) := by
        conv => lhs; rw [ha]
        simp only [List.append_assoc]
      rw [List.length_append, bytesN_length] at ih
      rw [e]
      have hz : (entOf p).size = p.2.size := rfl
      rw [hz, ih, Bool.and_false]

structure Arc (q : List Prt) : Prop where
  good : Good q
  sorted : SortedP q
section
variable {q : List Prt} (h : Arc q)
include h
theorem Arc.facts : (dirL q).length < 4294967296 ∧ get4 (encL q) 4 = (dirL q).length ∧ get4 (encL q) 8 = ones ^^^ (dirL q).length ∧ (encL q).take (12 + (dirL q).length) = headL q ∧ get4 (encL q) (12 + (dirL q).length) = crcL (headL q) ∧
    (encL q).length = 16 + (dirL q).length + (dataL q).length := by
  have hD : (dirL q).length < 4294967296 := by
    have := dirL_len q (fun p hp => h.good.name hp)
    have := h.good.len
    omega
  have hc : crcL (headL q) < 4294967296 := crcL_lt _ (headL_lt q)
  have eL : encL q = headL q ++ (put32 (crcL (headL q)) ++ dataL q) := by unfold encL; rw [List.append_assoc]
  obtain ⟨h2, h4, h8, hh⟩ := enc_head q (put32 (crcL (headL q)) ++ dataL q) hD (by rw [List.length_append, put32_len]; omega)
  rw [← eL] at h2 h4 h8 hh
  exact ⟨hD, h4, h8, hh, by rw [eL, get4_app _ _ _ (headL_lenN q), put32_get hc], by rw [eL, List.length_append, List.length_append, headL_lenN, put32_len]; omega⟩
/-- A reader of the same header and directory reads the same entries. -/
theorem Arc.same {L : List Nat} (hd : dirE L = 0) (h4 : get4 L 4 = (dirL q).length) (ht : L.take (12 + (dirL q).length) = headL q) :
    endL L = 12 + (dirL q).length ∧ dirEs L = q.map entOf ∧ dirX L = withOff (16 + (dirL q).length) (q.map entOf) ∧ L.length = 16 + (dirL q).length + (dataL q).length := by
  have hE : endL L = 12 + (dirL q).length := by unfold endL; rw [h4]
  have hdir : (headL q).drop 12 = dirL q := by
    unfold headL
    exact List.drop_left' (by simp [put32])
  have hes : dirEs L = q.map entOf := by
    unfold dirEs
    rw [hE, ht, hdir, entL_dirL q (fun p hp => ⟨by have := h.good.name hp; omega, by have := (h.good.each p hp).2; omega⟩)]
    rfl
  have ok := (dirOk_iff L).1 hd
  refine ⟨hE, hes, ?_, ?_⟩
  · rw [dirX_ok hd, hE, hes]
    congr 1
    omega
  · have := ok.c9
    rw [hE, hes, sizes_ents] at this
    omega
theorem Arc.turned {a m : List Nat} {c d : Nat} (he : encL q = a ++ [c] ++ m) (hne : c ≠ d) (hd : d < 256) : decE (a ++ [d] ++ m) ≠ 0 := by
  intro h0
  obtain ⟨hD, f4, f8, ft, fc, fl⟩ := h.facts
  have hl := encL_lt q
  have hdir : dirE (a ++ [d] ++ m) = 0 := Decidable.byContradiction fun hn => by rw [decE_dir hn] at h0; exact hn h0
  have ok := (dirOk_iff _).1 hdir
  have ok0 := (dirOk_iff _).1 (enc_back h.good h.sorted).dir
  have t0 := ok0.c2
  have t1 := ok.c2
  rw [he] at f4 f8 ft fc fl hl t0
  have hl' : ∀ b ∈ a ++ [d] ++ m, b < 256 := fun b hb => by
    rcases List.mem_append.1 hb with hb | hb
    · rcases List.mem_append.1 hb with hb | hb
      · exact hl b (List.mem_append_left _ (List.mem_append_left _ hb))
      · rw [List.mem_singleton] at hb; omega
    · exact hl b (List.mem_append_right _ hb)
  by_cases k4 : a.length < 4
  · rw [turn_take_gt k4] at t0 t1
    have e := t1.trans t0.symm
    rw [List.append_assoc, List.append_assoc] at e
    have e2 := List.append_cancel_left e
    simp only [List.singleton_append, List.cons.injEq] at e2
    exact hne e2.1.symm
  by_cases k8 : a.length < 8
  · have e8 : get4 (a ++ [d] ++ m) 8 = ones ^^^ (dirL q).length := (turn_get4 (c := c) (by omega)).trans f8
    have e4 := ok.c3
    rw [e8] at e4
    have e5 : get4 (a ++ [d] ++ m) 4 = (dirL q).length := by
      rw [Nat.xor_comm ones, Nat.xor_comm ones] at e4
      exact (xor_inj e4).symm
    exact turn_get4_ne (by omega) (by omega) hl hl' hne (e5.trans f4.symm)
  have g4 : get4 (a ++ [d] ++ m) 4 = (dirL q).length := (turn_get4 (c := c) (by omega)).trans f4
  by_cases k12 : a.length < 12
  · have e4 := ok.c3
    rw [g4] at e4
    exact turn_get4_ne (j := 8) (by omega) (by omega) hl hl' hne (e4.trans f8.symm)
  have hE : endL (a ++ [d] ++ m) = 12 + (dirL q).length := by unfold endL; rw [g4]
  have e5 := ok.c5
  rw [hE] at e5
  by_cases kD : a.length < 12 + (dirL q).length
  · have e6 : get4 (a ++ [d] ++ m) (12 + (dirL q).length) = crcL (headL q) := (turn_get4 (c := c) (by omega)).trans fc
    rw [e6, ← ft, turn_take_gt kD, turn_take_gt kD] at e5
    obtain ⟨b1, b3⟩ := lt_of_app hl
    obtain ⟨b1, b2⟩ := lt_of_app b1
    exact crcL_turned a (m.take (12 + (dirL q).length - a.length - 1)) c d (b2 c (by simp)) hd b1 (fun b hb => b3 b (List.mem_of_mem_take hb)) hne e5
  have e7 : (a ++ [d] ++ m).take (12 + (dirL q).length) = headL q := (turn_take_le (c := c) (by omega)).trans ft
  by_cases kC : a.length < 16 + (dirL q).length
  · rw [e7] at e5
    exact turn_get4_ne (j := 12 + (dirL q).length) (by omega) (by omega) hl hl' hne (e5.trans fc.symm)
  obtain ⟨_, _, hX, _⟩ := h.same hdir g4 e7
  rw [decE_all hdir, hX] at h0
  -- the part of the data in which the byte lies
  have hp : (headL q ++ put32 (crcL (headL q))).length = 16 + (dirL q).length := by rw [List.length_append, headL_lenN, put32_len]; omega
  have ea : a = (headL q ++ put32 (crcL (headL q))) ++ a.drop (16 + (dirL q).length) := by
    have h1 := congrArg (List.take (16 + (dirL q).length)) he
    rw [show encL q = (headL q ++ put32 (crcL (headL q))) ++ dataL q from rfl, List.take_left' hp, List.append_assoc, List.take_append_of_le_length (by omega)] at h1
    rw [h1, List.take_append_drop]
  have ed : dataL q = a.drop (16 + (dirL q).length) ++ [c] ++ m := by
    have h1 := congrArg (List.drop (16 + (dirL q).length)) he
    rw [show encL q = (headL q ++ put32 (crcL (headL q))) ++ dataL q from rfl, List.drop_left' hp, List.append_assoc, List.drop_append_of_le_length (by omega)] at h1
    rw [h1, List.append_assoc]
  have hdt := dat_turned q (headL q ++ put32 (crcL (headL q))) (a.drop (16 + (dirL q).length)) m c d ed hne hd
  rw [hp] at hdt
  have ee : a ++ [d] ++ m = (headL q ++ put32 (crcL (headL q))) ++ (a.drop (16 + (dirL q).length) ++ [d] ++ m) := by
    conv => lhs; rw [ea]
    simp only [List.append_assoc]
  rw [← ee] at hdt
  rw [if_neg (by rw [hdt]; decide)] at h0
  cases h0
theorem Arc.other {L : List Nat} (hlen : L.length ≠ (encL q).length) (h1 : ∀ k, 12 ≤ L.length → L.length ≤ (encL q).length → L = (encL q).take L.length ∨ k = 0) (h2 : (encL q).length < L.length → ∃ x, L = encL q ++ x) : decE L ≠ 0 := by
  intro h0
  obtain ⟨hD, f4, f8, ft, fc, fl⟩ := h.facts
  have hdir : dirE L = 0 := Decidable.byContradiction fun hn => by rw [decE_dir hn] at h0; exact hn h0
  have ok := (dirOk_iff _).1 hdir
  by_cases hle : L.length ≤ (encL q).length
  · have hL : L = (encL q).take L.length := by
      rcases h1 1 ok.c1 hle with h | h
      · exact h
      · omega
    have g4 : get4 L 4 = (dirL q).length := by
      rw [← f4]
      have hs : encL q = L ++ (encL q).drop L.length := by
        conv => rhs; lhs; rw [hL]
        exact (List.take_append_drop _ _).symm
      rw [hs]
      exact (get4_left _ _ 4 (by have := ok.c1; omega)).symm
    have hE : endL L = 12 + (dirL q).length := by unfold endL; rw [g4]
    have h4 := ok.c4
    rw [hE] at h4
    have ht : L.take (12 + (dirL q).length) = headL q := by
      rw [← ft]
      conv => lhs; rw [hL]
      rw [List.take_take, Nat.min_eq_left (by omega)]
    obtain ⟨_, _, _, hn⟩ := h.same hdir g4 ht
    omega
  · obtain ⟨x, hx⟩ := h2 (by omega)
    have g4 : get4 L 4 = (dirL q).length := by rw [hx, get4_left _ _ 4 (by omega), f4]
    have ht : L.take (12 + (dirL q).length) = headL q := by rw [hx, List.take_append_of_le_length (by omega), ft]
    obtain ⟨_, _, _, hn⟩ := h.same hdir g4 ht
    omega
theorem Arc.missing {k : Nat} (hk : k < (encL q).length) : decE ((encL q).take k) ≠ 0 :=
  h.other (by rw [List.length_take]; omega) (fun _ _ _ => .inl (by rw [List.length_take, Nat.min_eq_left (by omega)])) (fun hl => by rw [List.length_take] at hl; omega)
theorem Arc.added (x : Nat) : decE (encL q ++ [x]) ≠ 0 :=
  h.other (by simp) (fun _ _ hl => absurd hl (by simp)) (fun _ => ⟨[x], rfl⟩)
end
end Go.Proofs.Ytdnaifkcogadkaa
