/- Walk: the alignment that choices lead to. -/
import Derived.Test.YtbpegoekjlehcaaW3
import Derived.IntWalk
namespace Go.Proofs.Ytbpegoekjlehcaa
open Go.RowKit

def encB (c : Nat) : List Value := [.int .u8 c]
theorem encB_length (t : Nat) : (encB t).length = 1 := rfl
abbrev Byts := Sl encB 1
/-- What a round of a loop reads of byte k. -/
def BytAt (w : World) (B : Nat) (A : Option Addr) (l : List Nat) : Prop :=
  ∀ k (h : k < l.length), ∃ b o, A = some ⟨b, o, none⟩ ∧ b < B ∧ w.cell? ⟨b, o + k, none⟩ = some (.int .u8 l[k])
theorem Sl.byt {w : World} {B : Nat} {v : Value} {l : List Nat} (h : Byts w B v l) : ∃ A c, v = .slice A l.length c ∧ l.length ≤ c ∧ c ≤ 9223372036854775807 ∧ BytAt w B A l := by
  obtain ⟨A, c, rfl, h1, h2, h3⟩ := h
  refine ⟨A, c, rfl, h1, h2, fun k hk => ?_⟩
  obtain ⟨b, o, rfl, hb, hc⟩ := h3 (by omega)
  exact ⟨b, o, rfl, hb, by simpa using hc k l[k] (by simp) 0 _ rfl⟩
theorem BytAt.below {w w' : World} {B : Nat} {A : Option Addr} {l : List Nat} (h : BytAt w B A l) (hb : Below B w w') : BytAt w' B A l := by
  intro k hk
  obtain ⟨b, o, rfl, hbB, h1⟩ := h k hk
  exact ⟨b, o, rfl, hbB, (hb.cell (p := ⟨b, o + k, none⟩) hbB).trans h1⟩

def chosenF (a b : List Tok) : List Nat → Nat → Nat → List Tok
  | [], _, _ => []
  | c :: r, i, j => if i < a.length ∧ j < b.length then
      (if c % 4 = 0 then chosenF a b r (i + 1) j else if c % 4 = 1 then chosenF a b r i (j + 1) else
        if ky a i = ky b j then ((i : Int), (j : Int)) :: chosenF a b r (i + 1) (j + 1) else chosenF a b r i (j + 1)) else []
theorem chosenF_drop (a b : List Tok) (cs : List Nat) (k : Nat) (h : k < cs.length) (i j : Nat) :
    chosenF a b (cs.drop k) i j = if i < a.length ∧ j < b.length then
      (if cs[k] % 4 = 0 then chosenF a b (cs.drop (k + 1)) (i + 1) j else if cs[k] % 4 = 1 then chosenF a b (cs.drop (k + 1)) i (j + 1) else
        if ky a i = ky b j then ((i : Int), (j : Int)) :: chosenF a b (cs.drop (k + 1)) (i + 1) (j + 1) else chosenF a b (cs.drop (k + 1)) i (j + 1)) else [] := by
  rw [List.drop_eq_getElem_cons h]; rfl

set_option maxRecDepth 100000 in
set_option maxHeartbeats 4000000 in
theorem chosen_any (va vb vc : Value) (a b : List Tok) (cs : List Nat) (w : World) (ha : Toks w w.heap.size va a) (hb : Toks w w.heap.size vb b) (hp : Byts w w.heap.size vc cs)
    (hal : a.length ≤ 4096) (hbl : b.length ≤ 4096) (hcl : cs.length ≤ 4096) :
    Calls Try.prog 21 #[va, vb, vc] w fun e w' => ∃ v, e = .returned v ∧ Own encT 2 62 w' w.heap.size v (chosenF a b cs 0 0) ∧ Below w.heap.size w w' := by
  obtain ⟨A, c, rfl, hn, hc, HA⟩ := ha.tok
  obtain ⟨A', c', rfl, hn', hc', HB⟩ := hb.tok
  obtain ⟨A'', c'', rfl, hn'', hc'', HP⟩ := hp.byt
  clear ha hb hp
  obtain ⟨i0, hi, hz0, hz1, hz2⟩ := info_parts info62
  go_enter Try.func21, Try.ntmps21
  go_wp2
  go_loopw [7, 8, 9, 10] (fun out i j k wr => ∃ (kk ii jj : Nat) (o : List Tok), kk ≤ cs.length ∧ ii ≤ a.length ∧ jj ≤ b.length ∧ o.length ≤ kk ∧ i = .int .i64 ii ∧ j = .int .i64 jj ∧ k = .int .i64 kk ∧
      Own encT 2 62 wr w.heap.size out o ∧ Hid (o ++ chosenF a b (cs.drop kk) ii jj = chosenF a b cs 0 0) ∧ Below w.heap.size w wr) (fun _ _ _ i _ => cs.length - (intOf i).toNat)
  case atStart => exact ⟨0, 0, 0, [], Nat.zero_le _, Nat.zero_le _, Nat.zero_le _, Nat.zero_le _, rfl, rfl, rfl, Own.nil _ _, Lib.hid rfl, Below.refl _ _⟩
  case round =>
    obtain ⟨k, i, j, o, hk, hia, hjb, hok, rfl, rfl, rfl, hown, HSC, hb⟩ := hrel
    have hbz := hb.size
    by_cases hgo : k < cs.length ∧ i < a.length ∧ j < b.length
    · obtain ⟨hlt, hi1, hj1⟩ := hgo
      have HS := Lib.hid (chosenF_drop a b cs k hlt i j)
      obtain ⟨b3, o3, rfl, hbB3, g3⟩ := (HP.below hb) k hlt
      obtain ⟨b1, o1, rfl, hbB1, g11, g12⟩ := (HA.below hb) i hi1
      obtain ⟨b2, o2, rfl, hbB2, g21, g22⟩ := (HB.below hb) j hj1
      have HKA := Lib.hid (ky_at a i hi1)
      have HKB := Lib.hid (ky_at b j hj1)
      by_cases h0 : cs[k] % 4 = 0
      · have HF : Hid (o ++ chosenF a b (cs.drop (k + 1)) (i + 1) j = chosenF a b cs 0 0) := Lib.hid (by rw [← HSC.out, HS.out, if_pos ⟨hi1, hj1⟩, if_pos h0])
        go_wp2
        go_roundw
        case rel => exact ⟨k + 1, i + 1, j, o, by omega, by omega, by omega, by omega, by go_num, rfl, by go_num, hown, HF, hb⟩
        case measure => simp [intOf]; omega
      · by_cases h1 : cs[k] % 4 = 1
        · have HF : Hid (o ++ chosenF a b (cs.drop (k + 1)) i (j + 1) = chosenF a b cs 0 0) := Lib.hid (by rw [← HSC.out, HS.out, if_pos ⟨hi1, hj1⟩, if_neg h0, if_pos h1])
          go_wp2
          go_roundw
          case rel => exact ⟨k + 1, i, j + 1, o, by omega, by omega, by omega, by omega, rfl, by go_num, by go_num, hown, HF, hb⟩
          case measure => simp [intOf]; omega
        · by_cases he : a[i].1 = b[j].1
          · have HF : Hid ((o ++ [((i : Int), (j : Int))]) ++ chosenF a b (cs.drop (k + 1)) (i + 1) (j + 1) = chosenF a b cs 0 0) :=
              Lib.hid (by rw [← HSC.out, HS.out, if_pos ⟨hi1, hj1⟩, if_neg h0, if_neg h1, HKA.out, HKB.out, if_pos he, List.append_assoc]; rfl)
            go_wp2
            go_quiet (fail)
            go_wp2_with (at_builtin; refine wpList_push _ rfl _ _ 26 rfl w.heap.size 62 i0 _ 2 16 Try.underlying26 hi hz0 hz1 hz2 rfl (by decide) encT_length encT_one _ _ rfl (hown.drewN nq |>.alloc _) _ _ ((i : Int), (j : Int)) rfl (cells_new _ _ _) ?c1 ?c2 ?c3 ?_)
            case c1 => omega
            case c2 => omega
            case c3 => simp; omega
            intro v' w1 hown1 hg1
            have hb1 : Below w.heap.size w w1 := ((below_drewN hb nq).alloc hbz _).grown hg1 (by simp; omega) (fun q hq => (hown.lt q hq).1)
            clear hown
            go_wp2
            go_roundw
            case rel => exact ⟨k + 1, i + 1, j + 1, _, by omega, by omega, by omega, by simp; omega, by go_num, by go_num, by go_num, hown1, HF, hb1⟩
            case measure => simp [intOf]; omega
          · have HF : Hid (o ++ chosenF a b (cs.drop (k + 1)) i (j + 1) = chosenF a b cs 0 0) :=
              Lib.hid (by rw [← HSC.out, HS.out, if_pos ⟨hi1, hj1⟩, if_neg h0, if_neg h1, HKA.out, HKB.out, if_neg he])
            go_wp2
            go_quiet (fail)
            go_wp2
            go_roundw
            case rel => exact ⟨k + 1, i, j + 1, o, by omega, by omega, by omega, by omega, rfl, by go_num, by go_num, hown.drewN _, HF, below_drewN hb _⟩
            case measure => simp [intOf]; omega
    · have HE : Hid (o = chosenF a b cs 0 0) := by
        refine Lib.hid ?_
        rw [← HSC.out]
        by_cases hlt : k < cs.length
        · rw [chosenF_drop a b cs k hlt, if_neg (by omega), List.append_nil]
        · rw [List.drop_of_length_le (by omega)]; simp [chosenF]
      go_wp2
      all_goals first
        | (go_ret
           exact ⟨_, rfl, by rw [← HE.out]; exact hown, hb⟩)
        | (exfalso; omega)

end Go.Proofs.Ytbpegoekjlehcaa
