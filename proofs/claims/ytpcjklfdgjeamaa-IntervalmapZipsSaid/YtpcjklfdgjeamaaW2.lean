/- Walks: the search for a run. -/
import Derived.Test.YtpcjklfdgjeamaaW1
namespace Go.Proofs.Ytpcjklfdgjeamaa
open Go.RowKit

/-- How a run compares with an offset. -/
def cmpI (r : Rn) (o : Int) : Int := if o < r.1 then 1 else if r.2.1 ≤ o then -1 else 0

set_option maxHeartbeats 400000 in
theorem cmp_any (r0 r1 r2 o : Int) (w : World) :
    Calls Try.prog 53 #[.agg #[.int .i64 r0, .int .i64 r1, .int .i64 r2], .int .i64 o] w fun e w' => e = .returned (.int .i64 (cmpI (r0, r1, r2) o)) ∧ Below w.heap.size w w' := by
  by_cases h1 : o < r0
  · have H := Lib.hid (show cmpI (r0, r1, r2) o = 1 by rw [cmpI, if_pos h1])
    go_enter Try.func53, Try.ntmps53
    go_wp2
    go_ret
    exact ⟨ret_int H.out.symm, (Below.refl _ _).alloc (Nat.le_refl _) _⟩
  · by_cases h2 : r1 ≤ o
    · have H := Lib.hid (show cmpI (r0, r1, r2) o = -1 by rw [cmpI, if_neg h1, if_pos h2])
      go_enter Try.func53, Try.ntmps53
      go_wp2
      go_ret
      exact ⟨ret_int H.out.symm, (Below.refl _ _).alloc (Nat.le_refl _) _⟩
    · have H := Lib.hid (show cmpI (r0, r1, r2) o = 0 by rw [cmpI, if_neg h1, if_neg h2])
      go_enter Try.func53, Try.ntmps53
      go_wp2
      go_ret
      exact ⟨ret_int H.out.symm, (Below.refl _ _).alloc (Nat.le_refl _) _⟩

theorem cont_at : ∀ (R : List Rn) (s : Int) (h : Nat) (hh : h < R.length), Cont s R → s ≤ R[h].1 ∧ R[h].1 < R[h].2.1
  | [], _, _, hh, _ => by simp at hh
  | r :: R, s, 0, _, ⟨h1, h2, _⟩ => by simp only [List.getElem_cons_zero]; omega
  | r :: R, s, h + 1, hh, ⟨h1, h2, h3⟩ => by
    have := cont_at R r.2.1 h (by simpa using hh) h3
    simp only [List.getElem_cons_succ]; omega
theorem find_spec : ∀ (R : List Rn) (s o : Int) (h : Nat) (hh : h < R.length), Cont s R → (R[h].2.1 ≤ o ↔ h < findI R o)
  | [], _, _, _, hh, _ => by simp at hh
  | r :: R, s, o, 0, _, ⟨h1, h2, _⟩ => by
    simp only [List.getElem_cons_zero]
    show _ ↔ 0 < (if o < r.2.1 then 0 else findI R o + 1)
    split <;> omega
  | r :: R, s, o, h + 1, hh, ⟨h1, h2, h3⟩ => by
    have hh' : h < R.length := by simpa using hh
    have ih := find_spec R r.2.1 o h hh' h3
    have hb := cont_at R r.2.1 h hh' h3
    simp only [List.getElem_cons_succ]
    show _ ↔ h + 1 < (if o < r.2.1 then 0 else findI R o + 1)
    split <;> omega
theorem find_le : ∀ (R : List Rn) (o : Int), findI R o ≤ R.length
  | [], _ => Nat.le_refl _
  | r :: R, o => by
    have := find_le R o
    show (if o < r.2.1 then 0 else findI R o + 1) ≤ _
    split <;> simp <;> omega
theorem cmp_lt {R : List Rn} {s o : Int} {h : Nat} (hh : h < R.length) (hc : Cont s R) : cmpI R[h] o < 0 ↔ h < findI R o := by
  have h1 := find_spec R s o h hh hc
  have h2 := cont_at R s h hh hc
  unfold cmpI
  split
  · omega
  · split <;> omega

/-- What a round of a loop reads of element k. -/
def RunAt (w : World) (B : Nat) (A : Option Addr) (l : List Rn) : Prop :=
  ∀ k (h : k < l.length), ∃ b o, A = some ⟨b, o, none⟩ ∧ b < B ∧ w.cell? ⟨b, o + k * 3, none⟩ = some (.int .i64 l[k].1) ∧ w.cell? ⟨b, o + k * 3 + 1, none⟩ = some (.int .i64 l[k].2.1) ∧ w.cell? ⟨b, o + k * 3 + 2, none⟩ = some (.int .i64 l[k].2.2)
theorem Sl.run {w : World} {B : Nat} {v : Value} {l : List Rn} (h : RunsV w B v l) : ∃ A c, v = .slice A l.length c ∧ l.length ≤ c ∧ c ≤ 9223372036854775807 ∧ RunAt w B A l := by
  obtain ⟨A, c, rfl, h1, h2, h3⟩ := h
  refine ⟨A, c, rfl, h1, h2, fun k hk => ?_⟩
  obtain ⟨b, o, rfl, hb, hc⟩ := h3 (by omega)
  refine ⟨b, o, rfl, hb, ?_, ?_, ?_⟩
  · exact hc k l[k] (by simp) 0 _ rfl
  · exact hc k l[k] (by simp) 1 _ rfl
  · exact hc k l[k] (by simp) 2 _ rfl
theorem RunAt.below {w w' : World} {B : Nat} {A : Option Addr} {l : List Rn} (h : RunAt w B A l) (hb : Below B w w') : RunAt w' B A l := by
  intro k hk
  obtain ⟨b, o, rfl, hbB, h1, h2, h3⟩ := h k hk
  exact ⟨b, o, rfl, hbB, (hb.cell (p := ⟨b, o + k * 3, none⟩) hbB).trans h1, (hb.cell (p := ⟨b, o + k * 3 + 1, none⟩) hbB).trans h2, (hb.cell (p := ⟨b, o + k * 3 + 2, none⟩) hbB).trans h3⟩

set_option maxHeartbeats 4000000 in
set_option maxRecDepth 1000000 in
theorem search_any (v : Value) (R : List Rn) (o : Int) (w : World) (h : RunsV w w.heap.size v R) (hc : Cont 0 R) (hl : R.length ≤ 2097152) :
    Calls Try.prog 52 #[v, .int .i64 o, .func (.func 53) #[] #[]] w fun e w' => ∃ b, e = .returned (.tuple #[.int .i64 (findI R o), .bool b]) ∧ Below w.heap.size w w' := by
  obtain ⟨A, c, rfl, hn, hcap, HT⟩ := h.run
  have hfl := find_le R o
  obtain ⟨f, hf⟩ : ∃ f, f = findI R o := ⟨_, rfl⟩
  have HC : Hid (∀ h (hh : h < R.length), cmpI R[h] o < 0 ↔ h < f) := Lib.hid fun h hh => by rw [hf]; exact cmp_lt hh hc
  rw [← hf] at hfl ⊢
  clear hf h hc
  have HRT := Lib.hid HT
  clear HT
  go_enter Try.func52, Try.ntmps52
  go_wp2
  go_loopw [9, 10, 11] (fun i j _ wr => ∃ a b : Nat, a ≤ f ∧ f ≤ b ∧ b ≤ R.length ∧ i = .int .i64 a ∧ j = .int .i64 b ∧ Below w.heap.size w wr) (fun i j _ _ => (intOf j).toNat - (intOf i).toNat)
  case atStart => exact ⟨0, R.length, Nat.zero_le _, hfl, Nat.le_refl _, rfl, rfl, Below.refl _ _⟩
  case round =>
    obtain ⟨a, b, ha, hb, hbl, rfl, rfl, hbw⟩ := hrel
    have hbz := hbw.size
    by_cases hlt : a < b
    · obtain ⟨bb, oo, rfl, hbB, g1, g2, g3⟩ := (HRT.out.below hbw) ((a + b) / 2) (by omega)
      have HD := Lib.hid (HC.out ((a + b) / 2) (by omega))
      obtain ⟨x, hx⟩ : ∃ x, x = R[(a + b) / 2] := ⟨_, rfl⟩
      rw [← hx] at g1 g2 g3 HD
      obtain ⟨x0, x1, x2⟩ := x
      clear hx
      by_cases hm : (a + b) / 2 < f
      · have hlt2 : cmpI (x0, x1, x2) o < 0 := HD.out.2 hm
        go_wp2_with (go_at_call 53; refine (cmp_any _ _ _ _ _).mono ?_; rintro e w1 ⟨rfl, hb1⟩)
        go_roundw
        case rel => exact ⟨(a + b) / 2 + 1, b, by omega, hb, hbl, by go_num, rfl, hbw.trans (hb1.mono hbz)⟩
        case measure => simp [intOf]; omega
      · have hlt2 : ¬ cmpI (x0, x1, x2) o < 0 := fun h => hm (HD.out.1 h)
        go_wp2_with (go_at_call 53; refine (cmp_any _ _ _ _ _).mono ?_; rintro e w1 ⟨rfl, hb1⟩)
        go_roundw
        case rel => exact ⟨a, (a + b) / 2, by omega, by omega, by omega, rfl, by go_num, hbw.trans (hb1.mono hbz)⟩
        case measure => simp [intOf]; omega
    · obtain rfl : a = f := by omega
      by_cases hn' : a < R.length
      · obtain ⟨bb, oo, rfl, hbB, g1, g2, g3⟩ := (HRT.out.below hbw) a (by omega)
        obtain ⟨x, hx⟩ : ∃ x, x = R[a] := ⟨_, rfl⟩
        rw [← hx] at g1 g2 g3
        obtain ⟨x0, x1, x2⟩ := x
        clear hx
        go_wp2_with (go_at_call 53; refine (cmp_any _ _ _ _ _).mono ?_; rintro e w1 ⟨rfl, hb1⟩)
        go_ret2
        exact ⟨_, rfl, hbw.trans (hb1.mono hbz)⟩
      · go_wp2
        go_ret2
        exact ⟨_, rfl, hbw⟩

set_option maxHeartbeats 400000 in
theorem find_any (m : Nat) (R : List Rn) (o : Int) (w : World) (h : MapAt w m R) (hc : Cont 0 R) (hl : R.length ≤ 2097152) :
    Calls Try.prog 46 #[.pointer (some ⟨m, 0, none⟩), .int .i64 o] w fun e w' => e = .returned (.int .i64 (findI R o)) ∧ Below w.heap.size w w' := by
  obtain ⟨v, hm, hv⟩ := h
  have h0 : w.cell? ⟨m, 0, none⟩ = some v := blk_cell hm 0
  have H := Lib.hid (search_any v R o w hv hc hl)
  clear hm hv hc
  go_enter Try.func46, Try.ntmps46
  go_wp2_with fail
  refine H.out.mono ?_
  rintro e w1 ⟨b, rfl, hb1⟩
  go_wp2
  go_ret
  exact ⟨rfl, hb1⟩
end Go.Proofs.Ytpcjklfdgjeamaa
