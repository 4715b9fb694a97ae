/- Walk: IntervalmapPlays. -/
import Derived.Test.YtpcjklfdgjeamaaLaw2
namespace Go.Proofs.Ytpcjklfdgjeamaa
open Go.RowKit

set_option maxHeartbeats 1000000 in
theorem plays_any (v : Value) (P : PlayD) (w : World) (h : IsPlay w v P) : Calls Try.prog 4 #[v] w fun e w' => e = .returned (.bool true) ∧ Below w.heap.size w w' := by
  obtain ⟨sv, rfl, hl, hs⟩ := id h
  obtain ⟨A, c, rfl, _, _, hzz⟩ := hs
  have bW : Below w.heap.size w (w.alloc (.cells #[.int .u8 P.len, .int .i64 P.val, .slice A P.ops.length c] 35)) := (Below.refl _ _).alloc (Nat.le_refl _) _
  have HP := Lib.hid (playv_any _ P _ (h.over bW))
  have HB := Lib.hid bW
  clear h hzz bW
  go_enter Try.func4, Try.ntmps4
  go_wp2_with fail
  refine HP.out.mono ?_
  rintro e w1 ⟨m, lv, l, rfl, _, _, _, hnice, _, b1⟩
  have b1' := HB.out.trans (b1.mono HB.out.size)
  have hlv : ∃ A n c, lv = .slice A n c := by
    rcases hnice with rfl | ⟨g, n, c, rfl⟩
    · exact ⟨_, _, _, rfl⟩
    · exact ⟨_, _, _, rfl⟩
  obtain ⟨A', n', c', rfl⟩ := hlv
  clear hnice b1
  go_wp2_with fail
  refine (known_any w1).mono ?_
  rintro e w2 ⟨rfl, b2⟩
  have b2' := b1'.trans (b2.mono b1'.size)
  go_wp2
  go_ret
  exact ⟨rfl, b2'⟩
end Go.Proofs.Ytpcjklfdgjeamaa
