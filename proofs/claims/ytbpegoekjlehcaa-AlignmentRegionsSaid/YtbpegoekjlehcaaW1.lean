/- Walks: the checks of lists, sums, words. -/
import Derived.Test.YtbpegoekjlehcaaProg
import Derived.Test.YtbpegoekjlehcaaLib
import Derived.Test.YtbpegoekjlehcaaPl
import Derived.Deep.QuietTactic
import Derived.BigQuiet
namespace Go.Proofs.Ytbpegoekjlehcaa
open Go.RowKit

def encT (t : Tok) : List Value := [.int .i64 t.1, .int .i64 t.2]
theorem encT_length (t : Tok) : (encT t).length = 2 := rfl
abbrev Toks := Sl encT 2
abbrev OwnT := Own encT 2 46

/-- What a round of a loop reads of element k. -/
def TokAt (w : World) (B : Nat) (A : Option Addr) (l : List Tok) : Prop :=
  ∀ k (h : k < l.length), ∃ b o, A = some ⟨b, o, none⟩ ∧ b < B ∧ w.cell? ⟨b, o + k * 2, none⟩ = some (.int .i64 l[k].1) ∧ w.cell? ⟨b, o + k * 2 + 1, none⟩ = some (.int .i64 l[k].2)
theorem Sl.tok {w : World} {B : Nat} {v : Value} {l : List Tok} (h : Toks w B v l) : ∃ A c, v = .slice A l.length c ∧ l.length ≤ c ∧ c ≤ 9223372036854775807 ∧ TokAt w B A l := by
  obtain ⟨A, c, rfl, h1, h2, h3⟩ := h
  refine ⟨A, c, rfl, h1, h2, fun k hk => ?_⟩
  obtain ⟨b, o, rfl, hb, hc⟩ := h3 (by omega)
  refine ⟨b, o, rfl, hb, ?_, ?_⟩
  · exact hc k l[k] (by simp) 0 _ rfl
  · exact hc k l[k] (by simp) 1 _ rfl
theorem TokAt.below {w w' : World} {B : Nat} {A : Option Addr} {l : List Tok} (h : TokAt w B A l) (hb : Below B w w') : TokAt w' B A l := by
  intro k hk
  obtain ⟨b, o, rfl, hbB, h1, h2⟩ := h k hk
  exact ⟨b, o, rfl, hbB, (hb.cell (p := ⟨b, o + k * 2, none⟩) hbB).trans h1, (hb.cell (p := ⟨b, o + k * 2 + 1, none⟩) hbB).trans h2⟩

set_option maxHeartbeats 400000 in
theorem boolean_any (b : Bool) (w : World) :
    Calls Try.prog 27 #[.bool b] w fun e w' => e = .returned (.int .i64 (if b then 1 else 0)) ∧ w = w' := by
  cases b
  · go_enter Try.func27, Try.ntmps27
    go_wp2
    go_ret
    exact ⟨rfl, rfl⟩
  · go_enter Try.func27, Try.ntmps27
    go_wp2
    go_ret
    exact ⟨rfl, rfl⟩

set_option maxHeartbeats 400000 in
theorem cut_any (A : Option Addr) (n c : Nat) (hn : n ≤ c) (hc : c ≤ 9223372036854775807) (w : World) :
    Calls Try.prog 12 #[.slice A n c] w fun e w' => e = .returned (.slice A (min n 40) c) ∧ w = w' := by
  by_cases h : n ≤ 40
  · go_enter Try.func12, Try.ntmps12
    go_wp2
    go_ret
    exact ⟨by rw [Nat.min_eq_left h]; rfl, rfl⟩
  · have h' : 40 < n := by omega
    go_enter Try.func12, Try.ntmps12
    go_wp2
    go_ret
    exact ⟨by rw [Nat.min_eq_right (by omega)]; rfl, rfl⟩

set_option maxHeartbeats 400000 in
theorem check_any (v : Value) (l : List Tok) (w : World) (h : Toks w w.heap.size v l) :
    Calls Try.prog 26 #[v] w fun e w' => e = .returned (.int .i64 (checkL l)) ∧ Below w.heap.size w w' := by
  obtain ⟨A, c, rfl, hn, hc, HT⟩ := h.tok
  clear h
  go_enter Try.func26, Try.ntmps26
  go_wp2
  · go_ret
    have h2 : (2048 : Int) < ↑l.length := by assumption
    exact ⟨ret_int (by rw [checkL, if_pos (by omega)]), Below.refl _ _⟩
  · have h2 : ↑l.length ≤ (2048 : Int) := by assumption
    go_loopw [10] (fun i wr => ∃ k : Nat, k ≤ l.length ∧ i = .int .i64 k ∧ chk l = chk (l.drop k) ∧ Below w.heap.size w wr) (fun i _ => l.length - (intOf i).toNat)
    case atStart => exact ⟨0, Nat.zero_le _, rfl, rfl, Below.refl _ _⟩
    case round =>
      obtain ⟨k, hk, rfl, hck, hb⟩ := hrel
      have HCK := Lib.hid hck; clear hck
      have hbz := hb.size
      by_cases hlt : k < l.length
      · have HS := Lib.hid (chk_drop l k hlt)
        obtain ⟨b, o, rfl, hbB, g1, g2⟩ := (HT.below hb) k hlt
        go_wp2
        all_goals first
          | (go_ret
             exact ⟨ret_int (by rw [checkL, if_neg (by omega), HCK.out, HS.out, if_pos (by omega)]), hb.alloc (by omega) _⟩)
          | (go_roundw
             case rel => exact ⟨k + 1, by omega, by go_num, by rw [HCK.out, HS.out, if_neg (by omega)], hb.alloc (by omega) _⟩
             case measure => simp [intOf]; omega)
      · go_wp2
        go_ret
        exact ⟨ret_int (by rw [checkL, if_neg (by omega), HCK.out, List.drop_of_length_le (by omega)]; rfl), hb⟩

set_option maxHeartbeats 400000 in
theorem lcheck_any (v : Value) (l : List Tok) (w : World) (h : Toks w w.heap.size v l) :
    Calls Try.prog 28 #[v] w fun e w' => e = .returned (.int .i64 (checkL l)) ∧ Below w.heap.size w w' := by
  obtain ⟨A, c, rfl, hn, hc, HT⟩ := h.tok
  clear h
  go_enter Try.func28, Try.ntmps28
  go_wp2
  · go_ret
    have h2 : (2048 : Int) < ↑l.length := by assumption
    exact ⟨ret_int (by rw [checkL, if_pos (by omega)]), Below.refl _ _⟩
  · have h2 : ↑l.length ≤ (2048 : Int) := by assumption
    go_loopw [3] (fun i wr => ∃ k : Nat, k ≤ l.length ∧ i = .int .i64 k ∧ chk l = chk (l.drop k) ∧ Below w.heap.size w wr) (fun i _ => l.length - (intOf i).toNat)
    case atStart => exact ⟨0, Nat.zero_le _, rfl, rfl, Below.refl _ _⟩
    case round =>
      obtain ⟨k, hk, rfl, hck, hb⟩ := hrel
      have HCK := Lib.hid hck; clear hck
      have hbz := hb.size
      by_cases hlt : k < l.length
      · have HS := Lib.hid (chk_drop l k hlt)
        obtain ⟨b, o, rfl, hbB, g1, g2⟩ := (HT.below hb) k hlt
        go_wp2
        all_goals first
          | (go_ret
             exact ⟨ret_int (by rw [checkL, if_neg (by omega), HCK.out, HS.out, if_pos (by omega)]), hb⟩)
          | (go_roundw
             case rel => exact ⟨k + 1, by omega, by go_num, by rw [HCK.out, HS.out, if_neg (by omega)], hb⟩
             case measure => simp [intOf]; omega)
      · go_wp2
        go_ret
        exact ⟨ret_int (by rw [checkL, if_neg (by omega), HCK.out, List.drop_of_length_le (by omega)]; rfl), hb⟩

set_option maxHeartbeats 400000 in
theorem both_any (va vb : Value) (a b : List Tok) (w : World) (ha : Toks w w.heap.size va a) (hb : Toks w w.heap.size vb b) :
    Calls Try.prog 32 #[va, vb] w fun e w' => e = .returned (.int .i64 (bothL a b)) ∧ Below w.heap.size w w' := by
  by_cases hc : checkL a = 0
  · have HA := Lib.hid (check_any va a w ha)
    have hbe : (checkL a != 0) = false := by simp [hc]
    have HB := Lib.hid hc
    clear hc
    go_enter Try.func32, Try.ntmps32
    go_wp2_with fail
    refine HA.out.mono ?_
    rintro e w1 ⟨rfl, hb1⟩
    go_wp2_with fail
    refine (check_any vb b w1 (hb.over hb1)).mono ?_
    rintro e w2 ⟨rfl, hb2⟩
    go_wp2_with fail
    go_ret
    exact ⟨ret_int (by rw [bothL, if_pos HB.out]), hb1.trans (hb2.mono hb1.size)⟩
  · have HA := Lib.hid (check_any va a w ha)
    have hbe : (checkL a != 0) = true := by simp [hc]
    have HB := Lib.hid hc
    clear hc
    go_enter Try.func32, Try.ntmps32
    go_wp2_with fail
    refine HA.out.mono ?_
    rintro e w1 ⟨rfl, hb1⟩
    go_wp2_with fail
    go_ret
    exact ⟨ret_int (by rw [bothL, if_neg HB.out]), hb1⟩

end Go.Proofs.Ytbpegoekjlehcaa
