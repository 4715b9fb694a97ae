/- Walks of the reference: Add, Splice. -/
import Derived.Test.YtpcjklfdgjeamaaR1
namespace Go.Proofs.Ytpcjklfdgjeamaa
open Go.RowKit

theorem wrap64_eq (x : Int) : IntKind.i64.wrap x = wrap64 x := IntWalk.i64_left x
set_option maxHeartbeats 1000000 in
theorem radd_any (lv : Value) (l : List Int) (p q d : Int) (w : World) (h : IntsV w w.heap.size lv l) (hl : l.length ≤ 100000) (hr : rightB l.length p q = true) :
    Calls Try.prog 38 #[lv, .int .i64 p, (.int .i64 q), .int .i64 d] w fun e w' => ∃ v', e = .returned v' ∧ OwnI w' w.heap.size v' (addV l p q d) ∧ Below w.heap.size w w' := by
  obtain ⟨i0, hi, hz0, hz1, hz2⟩ := info_parts info3
  have HV : Hid (addV l p q d = mapTo l p.toNat q.toNat fun v => wr64 (v + d)) := Lib.hid (by
    rw [addV, if_pos hr]; rfl)
  obtain ⟨h0, h1, h2⟩ := right_iff.1 hr
  obtain ⟨p, rfl⟩ := Int.eq_ofNat_of_zero_le h0
  obtain ⟨q, rfl⟩ := Int.eq_ofNat_of_zero_le (show 0 ≤ q by omega)
  rw [Int.toNat_natCast, Int.toNat_natCast] at HV
  have hown := (Own.empty (enc := encI) (sz := 1) (E := 3) w w.heap.size (Nat.le_refl _))
  have H := Lib.hid (h.below ((Below.refl _ w).alloc (Nat.le_refl _) (.cells #[] 3)))
  have HL := Lib.hid hl
  have HH := Lib.hid (And.intro h1 h2)
  obtain ⟨A, c, rfl, hc1, hc2, _⟩ := id h
  clear h hr h0 h1 h2
  go_enter Try.func38, Try.ntmps38
  go_wp2_with (at_builtin; refine wpList_append_sl _ rfl _ _ 36 rfl w.heap.size 3 i0 _ 8 Try.underlying36 hi hz0 hz1 hz2 rfl (by decide) encI_length encI_one _ [] rfl hown w.heap.size _ l rfl H.out ?c1 ?c2 ?c3 ?_)
  case c1 => simp; omega
  case c2 => simp; omega
  case c3 => simp
  intro v1 w1 hown1 hg
  have hown1 : OwnI w1 w.heap.size v1 l := by simpa using hown1
  have hb1 : Below w.heap.size w w1 := ((Below.refl _ w).alloc (Nat.le_refl _) _).grown hg (by simp) (fun q hq => by simp [Value.ownBlock] at hq; omega)
  obtain ⟨A1, c1, rfl, _, _⟩ := hown1.shape
  clear hown hg
  go_wp2
  obtain ⟨wo, hwo⟩ : ∃ wo : World, wo = w1 := ⟨_, rfl⟩
  rw [← hwo] at hown1 hb1 ⊢
  clear hwo
  obtain ⟨n, hn⟩ : ∃ n, n = l.length := ⟨_, rfl⟩
  rw [← hn] at hown1 ⊢
  have HN := Lib.hid hn
  clear hn
  go_loopw [10] (fun iv wr => ∃ k : Nat, p ≤ k ∧ k ≤ q ∧ iv = .int .i64 k ∧ OwnI wr w.heap.size (.slice A1 n c1) (mapTo l p k fun v => wr64 (v + d)) ∧ Below w.heap.size w wr) (fun iv _ => q - (intOf iv).toNat)
  case atStart => exact ⟨p, Nat.le_refl _, by have := HH.out.1; omega, rfl, by rw [mapTo_start]; exact hown1, hb1⟩
  case round =>
    clear hown1 hb1
    obtain ⟨k, hk1, hk2, rfl, hown, hb⟩ := hrel
    by_cases hlt : k < q
    · have hkl : k < l.length := by have := HH.out; omega
      have hml := mapTo_length l p k (fun v => wr64 (v + d)) hk1 (by omega)
      obtain ⟨g, cap, he, hlc, _, hg1, _, c2, hfr⟩ := owni_at hown k (by omega)
      injection he with he1 he2 he3
      subst he1
      have hs := owni_set hown k (by omega) (wr64 (l[k] + d))
      rw [mapTo_step l p k (fun v => wr64 (v + d)) hk1 hkl] at hs
      rw [mapTo_get l p k (fun v => wr64 (v + d)) hk1 hkl] at c2
      have f2 := hfr k
      have hkn : (k : Int) < (n : Int) := by have := HN.out; omega
      have hbs := hb.setCell (p := ⟨g, k, none⟩) hg1 (.int .i64 (wr64 (l[k] + d)))
      obtain ⟨x, hx⟩ : ∃ x, x = l[k] := ⟨_, rfl⟩
      rw [← hx] at c2 hs hbs
      have hw : IntKind.i64.wrap (x + d) = wr64 (x + d) := rfl
      have hw2 : wrap64 (x + d) = wr64 (x + d) := by rw [← hw]; exact (wrap64_eq _).symm
      clear hown hml he2 he3 hx hfr hlc
      go_wp2
      go_roundw
      case rel => exact ⟨k + 1, by omega, by omega, by go_num, hs, hbs⟩
      case measure => simp [intOf]; omega
    · obtain rfl : k = q := by omega
      go_wp2
      go_ret
      exact ⟨_, rfl, by rw [HV.out]; exact hown, hb⟩

/-- A part of a slice, empty or not, as the model has it. -/
theorem Sl.upto {α : Type} {enc : α → List Value} {sz : Nat} {w : World} {B : Nat} {A : Option Addr} {n c : Nat} {l : List α} (h : Sl enc sz w B (.slice A n c) l) (k : Nat) (hk : k ≤ n) : Sl enc sz w B (.slice A k c) (l.take k) := by
  have := h.take k A n c rfl
  rwa [Nat.min_eq_right hk] at this
theorem Sl.from_ {α : Type} {enc : α → List Value} {sz : Nat} {w : World} {B : Nat} {b o : Nat} {n c : Nat} {l : List α} (h : Sl enc sz w B (.slice (some ⟨b, o, none⟩) n c) l) (k : Nat) (hk : k ≤ n) : Sl enc sz w B (.slice (some ⟨b, o + k * sz, none⟩) (n - k) (c - k)) (l.drop k) := by
  obtain ⟨A, c', he, h1, h2, h3⟩ := id h
  injection he with e1 e2 e3
  subst e2 e3
  rcases Nat.lt_or_ge k l.length with hlt | hge
  · have := h.part (lo := k) (hi := l.length) hlt (Nat.le_refl _)
    rwa [List.take_of_length_le (by simp)] at this
  · have : l.drop k = [] := List.drop_of_length_le hge
    rw [this]
    refine ⟨_, c - k, by rw [show l.length - k = 0 by omega]; rfl, by simp, Nat.le_trans (Nat.sub_le _ _) h2, fun h => by simp at h⟩
theorem Sl.empty {α : Type} {enc : α → List Value} {sz : Nat} (w : World) (B : Nat) (A : Option Addr) (c : Nat) (hc : c ≤ maxLen) : Sl enc sz w B (.slice A 0 c) ([] : List α) :=
  ⟨A, c, rfl, by simp, hc, fun h => by simp at h⟩

/-- A slice that is nil, or begins where a block begins. -/
def Nice (v : Value) : Prop := v = .slice none 0 0 ∨ ∃ g n c, v = .slice (some ⟨g, 0, none⟩) n c
theorem Own.nice {α : Type} {enc : α → List Value} {sz : Nat} {E : TypeId} {w : World} {base : Nat} {v : Value} {l : List α} (h : Own enc sz E w base v l) : Nice v := by
  unfold Own at h
  rcases h.2 with ⟨rfl, _⟩ | ⟨q, c, cur, rfl, _⟩
  · exact .inl rfl
  · exact .inr ⟨q, _, c, rfl⟩

set_option maxRecDepth 100000 in
set_option maxHeartbeats 1000000 in
theorem rsplice_any (lv : Value) (l : List Int) (a r i v : Int) (w : World) (h : IntsV w w.heap.size lv l) (hnice : Nice lv) (hl : l.length ≤ 100000) (ha : 0 ≤ a) (hr : 0 ≤ r) (hn : a + r ≤ l.length) (hi2 : i ≤ 100000) :
    Calls Try.prog 39 #[lv, .int .i64 a, .int .i64 r, .int .i64 i, .int .i64 v] w fun e w' => ∃ v', e = .returned v' ∧ OwnI w' w.heap.size v' (spliceL l a.toNat (a + r).toNat (newL i v)) ∧ Below w.heap.size w w' := by
  obtain ⟨i0, hi, hz0, hz1, hz2⟩ := info_parts info3
  obtain ⟨p, rfl⟩ := Int.eq_ofNat_of_zero_le ha
  obtain ⟨q, hq⟩ := Int.eq_ofNat_of_zero_le (show 0 ≤ (p : Int) + r by omega)
  have HV : Hid (spliceL l (p : Int).toNat ((p : Int) + r).toNat (newL i v) = l.take p ++ newL i v ++ l.drop q) := Lib.hid (by rw [hq]; rfl)
  have hpq : p ≤ q := by omega
  have hql : q ≤ l.length := by omega
  have hNL : (newL i v).length = i.toNat := by simp [newL]
  have hown := (Own.empty (enc := encI) (sz := 1) (E := 3) w w.heap.size (Nat.le_refl _))
  have bA : Below w.heap.size w (w.alloc (.cells #[] 3)) := (Below.refl _ w).alloc (Nat.le_refl _) _
  have HTP : Hid ((l.take p).length = p) := Lib.hid (by simp; omega)
  rcases hnice with rfl | ⟨g, n, c, rfl⟩
  · have hl0 : l = [] := by
      obtain ⟨A, c, e, _⟩ := h
      injection e with _ e2 _
      exact List.eq_nil_of_length_eq_zero e2.symm
    subst hl0
    obtain rfl : q = 0 := by simpa using hql
    obtain rfl : p = 0 := by omega
    obtain rfl : r = 0 := by omega
    have s1 : IntsV (w.alloc (.cells #[] 3)) w.heap.size (.slice none 0 0) (([] : List Int).take 0) := Sl.nil _ _
    have s3 : IntsV w w.heap.size (.slice none 0 0) (([] : List Int).drop 0) := Sl.nil _ _
    clear h hn hq
    go_enter Try.func39, Try.ntmps39
    go_wp2_with (at_builtin; refine wpList_append_sl _ rfl _ _ 36 rfl w.heap.size 3 i0 _ 8 Try.underlying36 hi hz0 hz1 hz2 rfl (by decide) encI_length encI_one _ [] rfl hown w.heap.size _ (([] : List Int).take 0) rfl s1 ?c1 ?c2 ?c3 ?_)
    case c1 => rw [HTP.out, List.length_nil]; omega
    case c2 => rw [HTP.out, List.length_nil]; omega
    case c3 => simp
    intro v1 w1 hown1 hg
    have hown1 : OwnI w1 w.heap.size v1 (([] : List Int).take 0) := by simpa using hown1
    have hb1 : Below w.heap.size w w1 := bA.grown hg (by simp) (fun q hq => by simp [Value.ownBlock] at hq; omega)
    clear hown hg s1
    go_wp2_with fail
    refine (rnew_any i v w1 (by omega)).mono ?_
    rintro e w2 ⟨v2, rfl, o2, b2⟩
    have hown2 := hown1.over b2
    have hb2 := hb1.trans (b2.mono hb1.size)
    clear hown1 b2
    go_wp2_with (at_builtin; refine wpList_append_sl _ rfl _ _ 36 rfl w.heap.size 3 i0 _ 8 Try.underlying36 hi hz0 hz1 hz2 rfl (by decide) encI_length encI_one v1 (([] : List Int).take 0) rfl hown2 _ v2 (newL i v) rfl (o2.sl encI_length) ?d1 ?d2 ?d3 ?_)
    case d1 => rw [hNL, HTP.out]; omega
    case d2 => rw [hNL, HTP.out]; omega
    case d3 => exact hb2.size
    intro v3 w3 hown3 hg3
    have hb3 := hb2.grown hg3 hb2.size (fun q hq => (hown2.lt q hq).1)
    clear hown2 hg3 o2
    have HL3 : Hid ((([] : List Int).take 0 ++ newL i v).length = 0 + i.toNat) := Lib.hid (by rw [List.length_append, hNL, HTP.out])
    go_wp2_with (at_builtin; refine wpList_append_sl _ rfl _ _ 36 rfl w.heap.size 3 i0 _ 8 Try.underlying36 hi hz0 hz1 hz2 rfl (by decide) encI_length encI_one v3 (([] : List Int).take 0 ++ newL i v) rfl hown3 w.heap.size (.slice none 0 0) (([] : List Int).drop 0) rfl (s3.below hb3) ?e1 ?e2 ?e3 ?_)
    case e1 => rw [HL3.out, List.length_drop]; omega
    case e2 => rw [HL3.out, List.length_drop]; omega
    case e3 => exact hb3.size
    intro v4 w4 hown4 hg4
    have hb4 := hb3.grown hg4 hb3.size (fun q hq => (hown3.lt q hq).1)
    have H4 : Hid (OwnI w4 w.heap.size v4 (spliceL ([] : List Int) ((0 : Nat) : Int).toNat (((0 : Nat) : Int) + 0).toNat (newL i v))) := Lib.hid (by rw [HV.out]; simpa using hown4)
    clear hown3 hg4 hown4
    go_wp2
    go_ret
    exact ⟨_, rfl, H4.out, hb4⟩
  · have s1 := (h.upto p (by obtain ⟨A, c', e, _⟩ := id h; injection e with _ e2 _; omega)).below bA
    obtain ⟨A, c', he, hc1, hc2, hx⟩ := id h
    injection he with he1 he2 he3
    subst he1 he2 he3
    clear hx
    have hcm : c ≤ 9223372036854775807 := by unfold maxLen at hc2; omega
    have s3 := h.from_ q hql
    rw [Nat.mul_one, Nat.zero_add] at s3
    have hqn : (0 : Int) ≤ (p : Int) + r := by omega
    have hqt : ((p : Int) + r).toNat = q := by omega
    have hqI : (p : Int) + r ≤ (l.length : Int) := hn
    have hpI : (p : Int) ≤ (c : Int) := by omega
    clear h
    by_cases hcq : c = q
    · have s3e : IntsV w w.heap.size (.slice (some ⟨g, 0, none⟩) 0 0) (l.drop q) := by
        rw [List.drop_of_length_le (by omega)]; exact Sl.empty _ _ _ _ (by simp [maxLen])
      have hlq : l.length = q := by omega
      have HLQ := Lib.hid hlq
      subst hcq
      rw [hlq] at hl hc1 hql hn hqI ⊢
      clear hlq s3
      go_enter Try.func39, Try.ntmps39
      go_wp2_with (at_builtin; refine wpList_append_sl _ rfl _ _ 36 rfl w.heap.size 3 i0 _ 8 Try.underlying36 hi hz0 hz1 hz2 rfl (by decide) encI_length encI_one _ [] rfl hown w.heap.size _ (l.take p) rfl s1 ?c1 ?c2 ?c3 ?_)
      case c1 => rw [HTP.out, List.length_nil]; omega
      case c2 => rw [HTP.out, List.length_nil]; omega
      case c3 => simp
      intro v1 w1 hown1 hg
      have hown1 : OwnI w1 w.heap.size v1 (l.take p) := by simpa using hown1
      have hb1 : Below w.heap.size w w1 := bA.grown hg (by simp) (fun q hq => by simp [Value.ownBlock] at hq; omega)
      clear hown hg s1
      go_wp2_with fail
      refine (rnew_any i v w1 (by omega)).mono ?_
      rintro e w2 ⟨v2, rfl, o2, b2⟩
      have hown2 := hown1.over b2
      have hb2 := hb1.trans (b2.mono hb1.size)
      clear hown1 b2
      go_wp2_with (at_builtin; refine wpList_append_sl _ rfl _ _ 36 rfl w.heap.size 3 i0 _ 8 Try.underlying36 hi hz0 hz1 hz2 rfl (by decide) encI_length encI_one v1 (l.take p) rfl hown2 _ v2 (newL i v) rfl (o2.sl encI_length) ?d1 ?d2 ?d3 ?_)
      case d1 => rw [hNL, HTP.out]; omega
      case d2 => rw [hNL, HTP.out]; omega
      case d3 => exact hb2.size
      intro v3 w3 hown3 hg3
      have hb3 := hb2.grown hg3 hb2.size (fun q hq => (hown2.lt q hq).1)
      clear hown2 hg3 o2
      have HL3 : Hid ((l.take p ++ newL i v).length = p + i.toNat) := Lib.hid (by rw [List.length_append, hNL, HTP.out])
      go_wp2_with (at_builtin; refine wpList_append_sl _ rfl _ _ 36 rfl w.heap.size 3 i0 _ 8 Try.underlying36 hi hz0 hz1 hz2 rfl (by decide) encI_length encI_one v3 (l.take p ++ newL i v) rfl hown3 w.heap.size _ (l.drop c) rfl (s3e.below hb3) ?e1 ?e2 ?e3 ?_)
      case e1 => rw [HL3.out, List.length_drop, HLQ.out]; omega
      case e2 => rw [HL3.out, List.length_drop, HLQ.out]; omega
      case e3 => exact hb3.size
      intro v4 w4 hown4 hg4
      have hb4 := hb3.grown hg4 hb3.size (fun q hq => (hown3.lt q hq).1)
      have H4 : Hid (OwnI w4 w.heap.size v4 (spliceL l (p : Int).toNat ((p : Int) + r).toNat (newL i v))) := Lib.hid (by rw [HV.out]; simpa using hown4)
      clear hown3 hg4 hown4
      go_wp2
      go_ret
      exact ⟨_, rfl, H4.out, hb4⟩
    · have hcq' : ¬ c = q := hcq
      go_enter Try.func39, Try.ntmps39
      go_wp2_with (at_builtin; refine wpList_append_sl _ rfl _ _ 36 rfl w.heap.size 3 i0 _ 8 Try.underlying36 hi hz0 hz1 hz2 rfl (by decide) encI_length encI_one _ [] rfl hown w.heap.size _ (l.take p) rfl s1 ?c1 ?c2 ?c3 ?_)
      case c1 => rw [HTP.out, List.length_nil]; omega
      case c2 => rw [HTP.out, List.length_nil]; omega
      case c3 => simp
      intro v1 w1 hown1 hg
      have hown1 : OwnI w1 w.heap.size v1 (l.take p) := by simpa using hown1
      have hb1 : Below w.heap.size w w1 := bA.grown hg (by simp) (fun q hq => by simp [Value.ownBlock] at hq; omega)
      clear hown hg s1
      go_wp2_with fail
      refine (rnew_any i v w1 (by omega)).mono ?_
      rintro e w2 ⟨v2, rfl, o2, b2⟩
      have hown2 := hown1.over b2
      have hb2 := hb1.trans (b2.mono hb1.size)
      clear hown1 b2
      go_wp2_with (at_builtin; refine wpList_append_sl _ rfl _ _ 36 rfl w.heap.size 3 i0 _ 8 Try.underlying36 hi hz0 hz1 hz2 rfl (by decide) encI_length encI_one v1 (l.take p) rfl hown2 _ v2 (newL i v) rfl (o2.sl encI_length) ?d1 ?d2 ?d3 ?_)
      case d1 => rw [hNL, HTP.out]; omega
      case d2 => rw [hNL, HTP.out]; omega
      case d3 => exact hb2.size
      intro v3 w3 hown3 hg3
      have hb3 := hb2.grown hg3 hb2.size (fun q hq => (hown2.lt q hq).1)
      clear hown2 hg3 o2
      have HL3 : Hid ((l.take p ++ newL i v).length = p + i.toNat) := Lib.hid (by rw [List.length_append, hNL, HTP.out])
      go_wp2_with (at_builtin; refine wpList_append_sl _ rfl _ _ 36 rfl w.heap.size 3 i0 _ 8 Try.underlying36 hi hz0 hz1 hz2 rfl (by decide) encI_length encI_one v3 (l.take p ++ newL i v) rfl hown3 w.heap.size _ (l.drop q) rfl (s3.below hb3) ?e1 ?e2 ?e3 ?_)
      case e1 => rw [HL3.out, List.length_drop]; omega
      case e2 => rw [HL3.out, List.length_drop]; omega
      case e3 => exact hb3.size
      intro v4 w4 hown4 hg4
      have hb4 := hb3.grown hg4 hb3.size (fun q hq => (hown3.lt q hq).1)
      have H4 : Hid (OwnI w4 w.heap.size v4 (spliceL l (p : Int).toNat ((p : Int) + r).toNat (newL i v))) := Lib.hid (by rw [HV.out]; simpa using hown4)
      clear hown3 hg4 hown4
      go_wp2
      go_ret
      exact ⟨_, rfl, H4.out, hb4⟩
end Go.Proofs.Ytpcjklfdgjeamaa
