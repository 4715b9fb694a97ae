/- Walk: the check of pairs. -/
import Derived.Test.YtbpegoekjlehcaaW3
import Derived.IntWalk
namespace Go.Proofs.Ytbpegoekjlehcaa
open Go.RowKit

/-- The error of pairs, from the pair before on. -/
def pairsF (a b : List Tok) : List Tok → Int → Int → Int
  | [], _, _ => 0
  | p :: r, x, y => if p.1 < 0 ∨ a.length ≤ p.1 ∨ p.2 < 0 ∨ b.length ≤ p.2 then 2 else if p.1 ≤ x ∨ p.2 ≤ y then 6 else if ky a p.1 ≠ ky b p.2 then 23 else pairsF a b r p.1 p.2
def pairsL (a b p : List Tok) : Int := pairsF a b p (-1) (-1)
theorem pairsF_drop (a b p : List Tok) (k : Nat) (h : k < p.length) (x y : Int) :
    pairsF a b (p.drop k) x y = if p[k].1 < 0 ∨ a.length ≤ p[k].1 ∨ p[k].2 < 0 ∨ b.length ≤ p[k].2 then 2 else if p[k].1 ≤ x ∨ p[k].2 ≤ y then 6 else if ky a p[k].1 ≠ ky b p[k].2 then 23 else pairsF a b (p.drop (k + 1)) p[k].1 p[k].2 := by
  rw [List.drop_eq_getElem_cons h]; rfl
/-- The pair before the k-th, or -1, -1. -/
def prevP (p : List Tok) (k : Nat) : Tok := if k = 0 then (-1, -1) else p[k - 1]?.getD (0, 0)

set_option maxRecDepth 100000 in
set_option maxHeartbeats 8000000 in
theorem checkPairs_any (va vb vp : Value) (a b p : List Tok) (w : World) (ha : Toks w w.heap.size va a) (hb : Toks w w.heap.size vb b) (hp : Toks w w.heap.size vp p) :
    Calls Try.prog 20 #[va, vb, vp] w fun e w' => e = .returned (.int .i64 (pairsL a b p)) ∧ Below w.heap.size w w' := by
  obtain ⟨A, c, rfl, hn, hc, HA⟩ := ha.tok
  obtain ⟨A', c', rfl, hn', hc', HB⟩ := hb.tok
  obtain ⟨A'', c'', rfl, hn'', hc'', HP⟩ := hp.tok
  clear ha hb hp
  go_enter Try.func20, Try.ntmps20
  go_wp2
  go_loopw [7] (fun k wr => ∃ kk : Nat, kk ≤ p.length ∧ k = .int .i64 kk ∧ pairsL a b p = pairsF a b (p.drop kk) (prevP p kk).1 (prevP p kk).2 ∧ Below w.heap.size w wr) (fun i _ => p.length - (intOf i).toNat)
  case atStart => exact ⟨0, Nat.zero_le _, rfl, rfl, Below.refl _ _⟩
  case round =>
    obtain ⟨k, hk, rfl, hsc, hb⟩ := hrel
    have HSC := Lib.hid hsc; clear hsc
    have hbz := hb.size
    by_cases hlt : k < p.length
    · have HS := Lib.hid (pairsF_drop a b p k hlt (prevP p k).1 (prevP p k).2)
      obtain ⟨x, hx⟩ : ∃ x, x = p[k] := ⟨_, rfl⟩
      obtain ⟨b3, o3, rfl, hbB3, g31, g32⟩ := (HP.below hb) k hlt
      rw [← hx] at HS g31 g32
      have HX := Lib.hid hx
      clear hx
      obtain ⟨xa, xb⟩ := x
      simp only at g31 g32
      by_cases hr : xa < 0 ∨ a.length ≤ xa ∨ xb < 0 ∨ b.length ≤ xb
      · have HR : Hid (pairsL a b p = 2) := Lib.hid (by rw [HSC.out, HS.out, if_pos hr])
        clear HS HSC
        go_wp2
        all_goals first
          | (go_ret
             exact ⟨ret_int HR.out.symm, hb⟩)
          | (exfalso; omega)
      · have hx1 : 0 ≤ xa := by omega
        have hx3 : 0 ≤ xb := by omega
        obtain ⟨ia, rfl⟩ := Int.eq_ofNat_of_zero_le hx1
        obtain ⟨ib, rfl⟩ := Int.eq_ofNat_of_zero_le hx3
        have hia : ia < a.length := by omega
        have hib : ib < b.length := by omega
        obtain ⟨b1, o1, rfl, hbB1, g11, g12⟩ := (HA.below hb) ia hia
        obtain ⟨b2, o2, rfl, hbB2, g21, g22⟩ := (HB.below hb) ib hib
        have HS2 : Hid (pairsL a b p = if (ia : Int) ≤ (prevP p k).1 ∨ (ib : Int) ≤ (prevP p k).2 then 6 else if a[ia].1 ≠ b[ib].1 then 23 else pairsF a b (p.drop (k + 1)) ia ib) :=
          Lib.hid (by rw [HSC.out, HS.out, if_neg hr, ky_at a ia hia, ky_at b ib hib])
        have HN : Hid (prevP p (k + 1) = ((ia : Int), (ib : Int))) := Lib.hid (by simp only [prevP, if_neg (Nat.succ_ne_zero k), Nat.add_sub_cancel, List.getElem?_eq_getElem hlt, ← HX.out]; rfl)
        clear hx1 hx3 HS HSC hr HX
        have fin : Hid (∀ W : World, pairsL a b p = pairsF a b (p.drop (k + 1)) ia ib → Below w.heap.size w W → ∃ kk : Nat, kk ≤ p.length ∧ Value.int .i64 ((k : Int) + 1) = .int .i64 kk ∧ pairsL a b p = pairsF a b (p.drop kk) (prevP p kk).1 (prevP p kk).2 ∧ Below w.heap.size w W) :=
          Lib.hid (fun _ h1 h2 => ⟨k + 1, by omega, by go_num, by rw [HN.out]; exact h1, h2⟩)
        by_cases hk0 : k = 0
        · have HP0 : Hid (prevP p k = (-1, -1)) := Lib.hid (by rw [hk0]; rfl)
          have hd : decide (0 < k) = false := by rw [hk0]; rfl
          clear hk0
          by_cases he : a[ia].1 = b[ib].1
          all_goals
            go_wp2
            go_quiet (fail)
            go_wp2
            go_quiet (fail)
            go_wp2
          · go_roundw
            case rel => exact fin.out _ (by rw [HS2.out, HP0.out, if_neg (by simp only; omega), if_neg (by simpa using he)]) (by first | exact below_drewN hb _ | exact below_drewN (below_drewN hb _) _)
            case measure => simp [intOf]; omega
          · go_ret
            exact ⟨ret_int (by rw [HS2.out, HP0.out, if_neg (by simp only; omega), if_pos (by simpa using he)]), by first | exact below_drewN hb _ | exact below_drewN (below_drewN hb _) _⟩
        · have hd : decide (0 < k) = true := by simp; omega
          have hk1 : k - 1 < p.length := by omega
          obtain ⟨j, hj⟩ : ∃ j : Nat, j = k - 1 := ⟨_, rfl⟩
          rw [← hj] at hk1
          have hkj : (k : Int) - 1 = (j : Int) := by omega
          have HP0 : Hid (prevP p k = p[j]) := Lib.hid (by simp only [prevP, if_neg hk0, ← hj, List.getElem?_eq_getElem hk1]; rfl)
          obtain ⟨b4, o4, h4, hbB4, g41, g42⟩ := (HP.below hb) j hk1
          injection h4 with h4
          injection h4 with h4 h5
          subst h4 h5
          have hj0 : (0 : Int) ≤ (j : Int) := by omega
          clear hk0 hj
          have hwk : IntKind.i64.wrap ((k : Int) - 1) = (j : Int) := by rw [IntWalk.i64_in _ (by omega)]; exact hkj
          have hjl : (j : Int) < (p.length : Int) := by omega
          by_cases he1 : (ia : Int) ≤ p[j].1
          · go_wp2
            go_quiet (fail)
            go_wp2
            go_ret
            exact ⟨ret_int (by rw [HS2.out, HP0.out, if_pos (.inl he1)]), by first | exact below_drewN hb _ | exact below_drewN (below_drewN hb _) _⟩
          · have hd1 : decide ((ia : Int) ≤ p[j].1) = false := by simpa using he1
            by_cases he2 : (ib : Int) ≤ p[j].2
            · go_wp2
              go_quiet (fail)
              go_wp2
              go_ret
              exact ⟨ret_int (by rw [HS2.out, HP0.out, if_pos (.inr he2)]), by first | exact below_drewN hb _ | exact below_drewN (below_drewN hb _) _⟩
            · by_cases he : a[ia].1 = b[ib].1
              all_goals
                go_wp2
                go_quiet (fail)
                go_wp2
                go_quiet (fail)
                go_wp2
              · go_roundw
                case rel => exact fin.out _ (by rw [HS2.out, HP0.out, if_neg (by omega), if_neg (by simpa using he)]) (by first | exact below_drewN hb _ | exact below_drewN (below_drewN hb _) _)
                case measure => simp [intOf]; omega
              · go_ret
                exact ⟨ret_int (by rw [HS2.out, HP0.out, if_neg (by omega), if_pos (by simpa using he)]), by first | exact below_drewN hb _ | exact below_drewN (below_drewN hb _) _⟩
    · have HE : Hid (pairsL a b p = 0) := Lib.hid (by rw [HSC.out, List.drop_of_length_le (by omega)]; rfl)
      go_wp2
      go_ret
      exact ⟨ret_int HE.out.symm, hb⟩

end Go.Proofs.Ytbpegoekjlehcaa
