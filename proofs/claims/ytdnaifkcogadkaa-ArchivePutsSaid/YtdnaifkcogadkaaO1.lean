/- Walks: the binary search of find; Open. -/
import Derived.Test.YtdnaifkcogadkaaR8
import Derived.Test.YtdnaifkcogadkaaB1
import Derived.Laws.Shifts
namespace Go.Proofs.Ytdnaifkcogadkaa
open Go.RowKit

set_option maxRecDepth 100000 in
theorem clo55 (nm : ByteArray) (off sz sm : Nat) (y : ByteArray) (w : World) :
    Calls Try.prog 55 #[.agg #[.string nm, .int .i64 off, .int .i64 sz, .int .u32 sm], .string y] w fun e w' => e = .returned (.int .i64 (cmpS nm y)) ∧ Below w.heap.size w w' := by
  go_enter Try.func55, Try.ntmps55
  go_wp2_with fail
  refine (compare_any nm y _).mono ?_
  rintro e w1 ⟨rfl, rfl⟩
  go_wp2_with fail
  go_ret
  exact ⟨rfl, (Below.refl _ _).alloc (Nat.le_refl _) _⟩
/-- Entries in increasing order of names. -/
def SortedX (X : List (Ent × Nat)) : Prop := X.Pairwise fun x y => x.1.name.toList < y.1.name.toList
theorem entE_sorted : ∀ (l : List Ent) (p : Option Ent), entE p l = 0 → (l.Pairwise fun x y => x.name.toList < y.name.toList) ∧ ∀ e, p = some e → ∀ x ∈ l, e.name.toList < x.name.toList
  | [], _, _ => ⟨List.Pairwise.nil, fun _ _ x hx => by simp at hx⟩
  | x :: r, p, h => by
    rw [entE_cons] at h
    by_cases hb : badE p x ≠ 0
    · rw [if_pos hb] at h; exact absurd h hb
    · rw [if_neg hb] at h
      obtain ⟨ih1, ih2⟩ := entE_sorted r (some x) h
      have hb0 : badE p x = 0 := by simpa using hb
      have hn : nameL (bytesN x.name) = true := by
        cases hq : nameL (bytesN x.name) with
        | true => rfl
        | false => rw [badE_name hq] at hb0; cases hb0
      have hx : ∀ e, p = some e → e.name.toList < x.name.toList := by
        rintro e rfl
        rw [badE_next hn] at hb0
        by_cases h1 : x.name.toList = e.name.toList
        · rw [if_pos h1] at hb0; cases hb0
        rw [if_neg h1] at hb0
        by_cases h2 : x.name.toList < e.name.toList
        · rw [if_pos h2] at hb0; cases hb0
        exact Decidable.byContradiction fun h3 => h1 (List.le_antisymm (List.not_lt.1 h3) (List.not_lt.1 h2))
      refine ⟨List.pairwise_cons.2 ⟨fun y hy => ih2 x rfl y hy, ih1⟩, fun e he y hy => ?_⟩
      rcases List.mem_cons.1 hy with rfl | hy
      · exact hx e he
      · exact List.lt_trans (hx e he) (ih2 x rfl y hy)
theorem dirX_sorted (l : List Nat) : SortedX (dirX l) := by
  unfold SortedX
  by_cases h : dirE l = 0
  · have ok := (dirOk_iff l).1 h
    have h1 := (entE_sorted (dirEs l) none ok.c8).1
    rw [dirX_ok h]
    have h2 : ((withOff (endL l + 4) (dirEs l)).map Prod.fst).Pairwise fun x y => x.name.toList < y.name.toList := by rw [withOff_fst]; exact h1
    exact (List.pairwise_map (f := Prod.fst) (R := fun x y : Ent => x.name.toList < y.name.toList)).1 h2
  · rw [dirX_bad h]; exact List.Pairwise.nil
theorem cmpS_lt (x y : ByteArray) : cmpS x y < 0 ↔ x.toList < y.toList := by
  unfold cmpS
  by_cases h : x.toList < y.toList
  · rw [if_pos h]; exact ⟨fun _ => h, fun _ => by decide⟩
  · rw [if_neg h]
    constructor
    · intro h2; split at h2 <;> omega
    · intro h2; exact absurd h2 h
theorem cmpS_eq (x y : ByteArray) : cmpS x y = 0 ↔ x = y := by
  unfold cmpS
  by_cases h : x.toList < y.toList
  · rw [if_pos h]
    constructor
    · intro h2; omega
    · rintro rfl; exact absurd h (List.lt_irrefl _)
  · rw [if_neg h]
    by_cases h3 : x.toList = y.toList
    · rw [if_pos h3]; exact ⟨fun _ => toList_inj h3, fun _ => rfl⟩
    · rw [if_neg h3]
      constructor
      · intro h2; omega
      · rintro rfl; exact absurd rfl h3
def FindPost (X : List (Ent × Nat)) (y : ByteArray) (i : Int) (b : Bool) : Prop :=
  (b = true ∧ ∃ (k : Nat) (x : Ent × Nat), i = k ∧ X[k]? = some x ∧ x.1.name = y) ∨ (b = false ∧ ∀ x ∈ X, x.1.name ≠ y)

set_option maxRecDepth 100000 in
set_option maxHeartbeats 4000000 in
theorem bsearch_any (A : Option Addr) (n c : Nat) (X : List (Ent × Nat)) (y : ByteArray) (w : World) (h : Ents w w.heap.size (.slice A n c) X) (hS : SortedX X) (hn : n ≤ 1048576) :
    Calls Try.prog 54 #[.slice A n c, .string y, .func (.func 55) #[] #[]] w fun e w' => ∃ i b, e = .returned (.tuple #[.int .i64 i, .bool b]) ∧ FindPost X y i b ∧ Below w.heap.size w w' := by
  have HEN := Lib.hid h
  obtain ⟨A', c', hv, hlc, hcm, _⟩ := id h
  simp only [Value.slice.injEq] at hv
  obtain ⟨rfl, hnX, rfl⟩ := hv
  have HM := Lib.hid hnX
  rw [← hnX] at hlc
  unfold maxLen at hcm
  have HS := Lib.hid hS
  clear h hnX hS
  go_enter Try.func54, Try.ntmps54
  go_wp2_with fail
  go_loopw [9, 10] (fun iv jv wr => ∃ i j : Nat, i ≤ j ∧ j ≤ n ∧ iv = .int .i64 i ∧ jv = .int .i64 j ∧ Hid (∀ (k : Nat) (x : Ent × Nat), X[k]? = some x → (k < i → x.1.name.toList < y.toList) ∧ (j ≤ k → ¬ x.1.name.toList < y.toList)) ∧ Below w.heap.size w wr) (fun iv jv _ => (intOf jv - intOf iv).toNat)
  case atStart => exact ⟨0, n, Nat.zero_le _, Nat.le_refl _, rfl, rfl, Lib.hid (fun k x hx => ⟨fun h => absurd h (Nat.not_lt_zero _), fun h => by
    have := (List.getElem?_eq_some_iff.1 hx).1
    have := HM.out
    omega⟩), Below.refl _ _⟩
  case round =>
    obtain ⟨i, j, hij, hjn, rfl, rfl, HI, hb⟩ := hrel
    have hbz := hb.size
    by_cases hlt : i < j
    · obtain ⟨m, hm⟩ : ∃ m, m = (i + j) / 2 := ⟨_, rfl⟩
      have hmi : i ≤ m := by omega
      have hmj : m < j := by omega
      obtain ⟨x, hx⟩ : ∃ x, X[m]? = some x := ⟨X[m]'(by rw [← HM.out]; omega), by simp⟩
      obtain ⟨b, o, hA, hbB, c0, c1, c2, c3⟩ := Ents.at (Sl.over HEN.out hb) m x hx
      subst hA
      have e1 : IntKind.i64.wrap ((i : Int) + (j : Int)) = (i : Int) + (j : Int) := IntWalk.i64_in _ (by omega)
      have e2 : IntKind.u64.wrap ((i : Int) + (j : Int)) = (i : Int) + (j : Int) := IntWalk.u64_in _ (by omega)
      have e3 : ((i : Int) + (j : Int)) / 2 = (m : Int) := by omega
      have k4 : (m : Int) < (n : Int) := by omega
      obtain ⟨⟨nm, sz, sm⟩, off⟩ := x
      simp only at c0 c1 c2 c3
      have e4 : IntKind.i64.wrap (m : Int) = (m : Int) := IntWalk.i64_in _ (by omega)
      have HX := Lib.hid hx
      clear hm hx
      by_cases hc : nm.toList < y.toList
      · have hz : cmpS nm y < 0 := (cmpS_lt nm y).2 hc
        have hd : decide (cmpS nm y < 0) = true := by simpa using hz
        have HN : Hid (∀ (k : Nat) (x : Ent × Nat), X[k]? = some x → (k < m + 1 → x.1.name.toList < y.toList) ∧ (j ≤ k → ¬ x.1.name.toList < y.toList)) := Lib.hid (fun k x hx => ⟨fun hk => by
          rcases Nat.lt_or_ge k m with h1 | h1
          · have hp := List.pairwise_iff_getElem.1 HS.out k m (List.getElem?_eq_some_iff.1 hx).1 (List.getElem?_eq_some_iff.1 HX.out).1 h1
            rw [(List.getElem?_eq_some_iff.1 hx).2, (List.getElem?_eq_some_iff.1 HX.out).2] at hp
            exact List.lt_trans hp hc
          · obtain rfl : k = m := by omega
            rw [HX.out] at hx
            cases hx
            exact hc, (HI.out k x hx).2⟩)
        obtain ⟨z, hzz⟩ : ∃ z, z = cmpS nm y := ⟨_, rfl⟩
        have HCL := Lib.hid (clo55 nm off sz sm y wr)
        rw [← hzz] at hd HCL hz
        clear hc hzz
        go_wp2_with fail
        refine HCL.out.mono ?_
        rintro e w2 ⟨rfl, hk2⟩
        have hb2 := hb.trans (hk2.mono hbz)
        clear e1 e2 e3 e4
        go_wp2_with fail
        go_roundw
        case rel => exact ⟨m + 1, j, by omega, hjn, by go_num, rfl, HN, hb2⟩
        case measure => simp [intOf]; omega
      · have hz : ¬ cmpS nm y < 0 := fun h => hc ((cmpS_lt nm y).1 h)
        have hd : decide (cmpS nm y < 0) = false := by simpa using hz
        have HN : Hid (∀ (k : Nat) (x : Ent × Nat), X[k]? = some x → (k < i → x.1.name.toList < y.toList) ∧ (m ≤ k → ¬ x.1.name.toList < y.toList)) := Lib.hid (fun k x hx => ⟨(HI.out k x hx).1, fun hk h0 => by
          rcases Nat.lt_or_ge m k with h1 | h1
          · have hp := List.pairwise_iff_getElem.1 HS.out m k (List.getElem?_eq_some_iff.1 HX.out).1 (List.getElem?_eq_some_iff.1 hx).1 h1
            rw [(List.getElem?_eq_some_iff.1 hx).2, (List.getElem?_eq_some_iff.1 HX.out).2] at hp
            exact hc (List.lt_trans hp h0)
          · obtain rfl : k = m := by omega
            rw [HX.out] at hx
            cases hx
            exact hc h0⟩)
        obtain ⟨z, hzz⟩ : ∃ z, z = cmpS nm y := ⟨_, rfl⟩
        have HCL := Lib.hid (clo55 nm off sz sm y wr)
        rw [← hzz] at hd HCL hz
        clear hc hzz
        go_wp2_with fail
        refine HCL.out.mono ?_
        rintro e w2 ⟨rfl, hk2⟩
        have hb2 := hb.trans (hk2.mono hbz)
        clear e1 e2 e3 e4
        go_wp2_with fail
        go_roundw
        case rel => exact ⟨i, m, hmi, by omega, rfl, rfl, HN, hb2⟩
        case measure => simp [intOf]; omega
    · obtain rfl : i = j := by omega
      by_cases hin : i < n
      · obtain ⟨x, hx⟩ : ∃ x, X[i]? = some x := ⟨X[i]'(by rw [← HM.out]; omega), by simp⟩
        obtain ⟨b, o, hA, hbB, c0, c1, c2, c3⟩ := Ents.at (Sl.over HEN.out hb) i x hx
        subst hA
        have k4 : (i : Int) < (n : Int) := by omega
        have HX := Lib.hid hx
        clear hx
        obtain ⟨⟨nm, sz, sm⟩, off⟩ := x
        simp only at c0 c1 c2 c3
        have HP : Hid (FindPost X y i (cmpS nm y == 0)) := Lib.hid (by
          by_cases hc : nm = y
          · exact .inl ⟨by rw [(cmpS_eq nm y).2 hc]; rfl, i, _, rfl, HX.out, hc⟩
          · refine .inr ⟨by rw [beq_eq_false_iff_ne]; exact fun h => hc ((cmpS_eq nm y).1 h), fun x hx he => ?_⟩
            obtain ⟨k, hk, rfl⟩ := List.getElem_of_mem hx
            have h1 := HI.out k X[k] (by simp)
            rcases Nat.lt_trichotomy k i with h2 | h2 | h2
            · have := h1.1 h2
              rw [he] at this
              exact List.lt_irrefl _ this
            · subst h2
              have h3 := HX.out
              rw [List.getElem?_eq_getElem hk] at h3
              have h5 := Option.some.inj h3
              rw [h5] at he
              exact hc he
            · have hp := List.pairwise_iff_getElem.1 HS.out i k (List.getElem?_eq_some_iff.1 HX.out).1 hk h2
              rw [(List.getElem?_eq_some_iff.1 HX.out).2] at hp
              have h4 := (HI.out i _ HX.out).2 (Nat.le_refl _)
              rw [he] at hp
              exact h4 hp)
        have HCL := Lib.hid (clo55 nm off sz sm y wr)
        obtain ⟨z, hzz⟩ : ∃ z, z = cmpS nm y := ⟨_, rfl⟩
        rw [← hzz] at HP HCL
        clear hzz
        go_wp2_with fail
        refine HCL.out.mono ?_
        rintro e w2 ⟨rfl, hk2⟩
        have hb2 := hb.trans (hk2.mono hbz)
        go_wp2_with fail
        go_ret2
        exact ⟨_, _, rfl, HP.out, hb2⟩
      · have HP : Hid (FindPost X y i false) := Lib.hid (.inr ⟨rfl, fun x hx he => by
          obtain ⟨k, hk, rfl⟩ := List.getElem_of_mem hx
          have h1 := (HI.out k X[k] (by simp)).1 (by have := HM.out; omega)
          rw [he] at h1
          exact List.lt_irrefl _ h1⟩)
        go_wp2_with fail
        go_ret2
        exact ⟨_, _, rfl, HP.out, hb⟩
end Go.Proofs.Ytdnaifkcogadkaa
