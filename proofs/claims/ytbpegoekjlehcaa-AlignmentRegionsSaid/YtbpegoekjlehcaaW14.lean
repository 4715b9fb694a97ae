/- Walk: CheckPairs. -/
import Derived.Test.YtbpegoekjlehcaaW5
import Derived.Test.YtbpegoekjlehcaaMem
namespace Go.Proofs.Ytbpegoekjlehcaa
open Go.RowKit

/-- The error of pairs, behind that of the lists. -/
def lpairsL (a b p : List Tok) : Int := if bothL a b ≠ 0 then bothL a b else pairsL a b p

theorem two_set {w : World} {G : Nat} {x y u v : Value} (h : w.heap[G]? = some (.cells #[x, y] 62 (0, 0))) :
    ((w.setCell ⟨G, 0, none⟩ u).setCell ⟨G, 1, none⟩ v).heap[G]? = some (.cells #[u, v] 62 (0, 0)) :=
  heap_setCell_same _ _ _ _ _ _ (heap_setCell_same _ _ _ _ _ _ h)

set_option maxRecDepth 100000 in
set_option maxHeartbeats 8000000 in
theorem lpairs_any (va vb vp : Value) (a b p : List Tok) (w : World) (ha : Toks w w.heap.size va a) (hb : Toks w w.heap.size vb b) (hp : Toks w w.heap.size vp p) :
    Calls Try.prog 29 #[va, vb, vp] w fun e w' => e = .returned (.int .i64 (lpairsL a b p)) ∧ Below w.heap.size w w' := by
  have H1 := Lib.hid (both_any va vb a b w ha hb)
  by_cases h0 : bothL a b = 0
  · have hb0 : (bothL a b != 0) = false := by simp [h0]
    have HR : Hid (lpairsL a b p = pairsL a b p) := Lib.hid (by unfold lpairsL; rw [if_neg (by simp [h0])])
    clear h0
    obtain ⟨A, c, rfl, hn, hc, HA⟩ := ha.tok
    obtain ⟨A', c', rfl, hn', hc', HB⟩ := hb.tok
    obtain ⟨A'', c'', rfl, hn'', hc'', HP⟩ := hp.tok
    clear ha hb hp
    go_enter Try.func29, Try.ntmps29
    go_wp2_with fail
    refine H1.out.mono ?_
    rintro e w1 ⟨rfl, hb1⟩
    have hz1 := hb1.size
    go_wp2_with fail
    go_loopw [20] (fun k wr => ∃ kk : Nat, kk ≤ p.length ∧ k = .int .i64 kk ∧ wr.heap[w1.heap.size]? = some (.cells #[.int .i64 (prevP p kk).1, .int .i64 (prevP p kk).2] 62 (0, 0)) ∧ Hid (pairsL a b p = pairsF a b (p.drop kk) (prevP p kk).1 (prevP p kk).2) ∧ Below w.heap.size w wr) (fun i _ => p.length - (intOf i).toNat)
    case atStart => exact ⟨0, Nat.zero_le _, rfl, heap_alloc_new _ _, Lib.hid rfl, hb1.alloc hz1 _⟩
    case round =>
      obtain ⟨k, hk, rfl, hG, HSC, hb⟩ := hrel
      have hbz := hb.size
      by_cases hlt : k < p.length
      · have HS := Lib.hid (pairsF_drop a b p k hlt (prevP p k).1 (prevP p k).2)
        obtain ⟨x, hx⟩ : ∃ x, x = p[k] := ⟨_, rfl⟩
        obtain ⟨b3, o3, rfl, hbB3, g31, g32⟩ := (HP.below hb) k hlt
        rw [← hx] at HS g31 g32
        have HX := Lib.hid hx
        clear hx
        obtain ⟨xa, xb⟩ := x
        simp only at g31 g32
        obtain ⟨q, hq⟩ : ∃ q, q = prevP p k := ⟨_, rfl⟩
        rw [← hq] at hG HS HSC
        clear hq
        obtain ⟨qa, qb⟩ := q
        simp only at hG HS HSC
        have c0 : wr.cell? ⟨w1.heap.size, 0, none⟩ = some (.int .i64 qa) := blk_cell hG 0
        have c1 : wr.cell? ⟨w1.heap.size, 1, none⟩ = some (.int .i64 qb) := blk_cell hG 1
        have f0 := blk_free hG 0
        have f1 := blk_free hG 1
        have hGl := lt_of_block hG
        have HG := Lib.hid hG
        clear hG
        by_cases hr : xa < 0 ∨ a.length ≤ xa ∨ xb < 0 ∨ b.length ≤ xb
        · have HV : Hid (pairsL a b p = 2) := Lib.hid (by rw [HSC.out, HS.out, if_pos hr])
          clear HS HSC
          go_wp2_with fail
          all_goals first
            | (go_ret
               exact ⟨ret_int (by rw [HR.out, HV.out]), hb.alloc hbz _⟩)
            | (exfalso; omega)
        · have hx1 : 0 ≤ xa := by omega
          have hx3 : 0 ≤ xb := by omega
          obtain ⟨ia, rfl⟩ := Int.eq_ofNat_of_zero_le hx1
          obtain ⟨ib, rfl⟩ := Int.eq_ofNat_of_zero_le hx3
          have hia : ia < a.length := by omega
          have hib : ib < b.length := by omega
          obtain ⟨b1, o1, rfl, hbB1, g11, g12⟩ := (HA.below hb) ia hia
          obtain ⟨b2, o2, rfl, hbB2, g21, g22⟩ := (HB.below hb) ib hib
          have l1 : b1 < wr.heap.size := by omega
          have l2 : b2 < wr.heap.size := by omega
          have HS2 : Hid (pairsL a b p = if (ia : Int) ≤ qa ∨ (ib : Int) ≤ qb then 6 else if a[ia].1 ≠ b[ib].1 then 23 else pairsF a b (p.drop (k + 1)) ia ib) :=
            Lib.hid (by rw [HSC.out, HS.out, if_neg hr, ky_at a ia hia, ky_at b ib hib])
          have HN : Hid (prevP p (k + 1) = ((ia : Int), (ib : Int))) := Lib.hid (by simp only [prevP, if_neg (Nat.succ_ne_zero k), Nat.add_sub_cancel, List.getElem?_eq_getElem hlt, ← HX.out]; rfl)
          clear hx1 hx3 HS HSC HX
          by_cases he1 : (ia : Int) ≤ qa
          · have HV : Hid (pairsL a b p = 6) := Lib.hid (by rw [HS2.out, if_pos (.inl he1)])
            go_wp2_with fail
            all_goals first
              | (go_ret
                 exact ⟨ret_int (by rw [HR.out, HV.out]), hb.alloc hbz _⟩)
              | (exfalso; omega)
          · by_cases he2 : (ib : Int) ≤ qb
            · have HV : Hid (pairsL a b p = 6) := Lib.hid (by rw [HS2.out, if_pos (.inr he2)])
              go_wp2_with fail
              all_goals first
                | (go_ret
                   exact ⟨ret_int (by rw [HR.out, HV.out]), hb.alloc hbz _⟩)
                | (exfalso; omega)
            · have d1 : decide ((ia : Int) ≤ qa) = false := by simpa using he1
              by_cases he : a[ia].1 = b[ib].1
              · have hne : (a[ia].1 != b[ib].1) = false := by simpa using he
                have HV : Hid (pairsL a b p = pairsF a b (p.drop (k + 1)) (prevP p (k + 1)).1 (prevP p (k + 1)).2) := Lib.hid (by rw [HS2.out, if_neg (by omega), if_neg (by simpa using he), HN.out])
                clear HS2
                go_wp2_with fail
                go_quiet (fail)
                go_wp2_with fail
                all_goals
                  go_roundw
                  case rel => exact ⟨k + 1, by omega, by go_num, by rw [HN.out]; exact two_set ((Below.heap_alloc _ _ _ hGl).trans HG.out), HV, ((below_drewN (hb.alloc hbz _) _).setCell (by exact hz1) _).setCell (by exact hz1) _⟩
                  case measure => simp [intOf]; omega
              · have hne : (a[ia].1 != b[ib].1) = true := by simpa using he
                have HV : Hid (pairsL a b p = 23) := Lib.hid (by rw [HS2.out, if_neg (by omega), if_pos (by simpa using he)])
                clear HS2
                go_wp2_with fail
                go_quiet (fail)
                go_wp2_with fail
                all_goals
                  go_ret
                  exact ⟨ret_int (by rw [HR.out, HV.out]), below_drewN (hb.alloc hbz _) _⟩
      · have HE : Hid (pairsL a b p = 0) := Lib.hid (by rw [HSC.out, List.drop_of_length_le (by omega)]; rfl)
        go_wp2
        go_ret
        exact ⟨ret_int (by rw [HR.out, HE.out]), hb⟩
  · have hb0 : (bothL a b != 0) = true := by simp [h0]
    have HR : Hid (lpairsL a b p = bothL a b) := Lib.hid (by unfold lpairsL; rw [if_pos h0])
    clear h0
    go_enter Try.func29, Try.ntmps29
    go_wp2_with fail
    refine H1.out.mono ?_
    rintro e w1 ⟨rfl, hb1⟩
    go_wp2_with fail
    go_ret
    exact ⟨ret_int (by rw [HR.out]), hb1⟩
end Go.Proofs.Ytbpegoekjlehcaa
