/- Walk: known. -/
import Derived.Test.YtpcjklfdgjeamaaW9
namespace Go.Proofs.Ytpcjklfdgjeamaa
open Go.RowKit

def kn1 : List Int := setV (newL 10 0) 2 5 7
def kn2 : List Int := setV kn1 4 8 7
theorem kn_len : (newL 10 0).length = 10 ∧ kn1.length = 10 ∧ kn2.length = 10 := by decide
theorem kn_runs : runsOf kn2 = [(0, 2, 0), (2, 8, 7), (8, 10, 0)] := by decide
theorem kn_right : rightE (newL 10 0).length 2 5 = 0 ∧ rightE kn1.length 4 8 = 0 := by decide

theorem new_ok (n v : Int) (w : World) (h0 : 0 ≤ n) (h1 : n ≤ 1048576) : Calls Try.prog 12 #[.int .i64 n, .int .i64 v] w fun e w' => ∃ m, e = .returned (.tuple #[.pointer (some ⟨m, 0, none⟩), .int .i64 0]) ∧ w.heap.size ≤ m ∧ MapIs w' m (newL n v) ∧ Below w.heap.size w w' :=
  (new_any n v w).mono fun e w' h => by
    rcases h with ⟨_, _, h⟩ | ⟨h, _⟩
    · exact h
    · exfalso; omega

set_option maxHeartbeats 1000000 in
theorem known_any (w : World) : Calls Try.prog 13 #[] w fun e w' => e = .returned (.bool true) ∧ Below w.heap.size w w' := by
  have HN := Lib.hid (new_ok 10 0 w (by omega) (by omega))
  have HS1 : Hid (∀ m W, MapIs W m (newL 10 0) → Calls Try.prog 23 #[.pointer (some ⟨m, 0, none⟩), .int .i64 2, .int .i64 5, .int .i64 7] W fun e w' => e = .returned (.int .i64 0) ∧ W.grownBy w' (some m) ∧ MapIs w' m kn1) := Lib.hid (fun m W hW => by
    have := set_any m _ 2 5 7 W hW (by rw [kn_len.1]; omega)
    rwa [kn_right.1] at this)
  have HS2 : Hid (∀ m W, MapIs W m kn1 → Calls Try.prog 23 #[.pointer (some ⟨m, 0, none⟩), .int .i64 4, .int .i64 8, .int .i64 7] W fun e w' => e = .returned (.int .i64 0) ∧ W.grownBy w' (some m) ∧ MapIs w' m kn2) := Lib.hid (fun m W hW => by
    have := set_any m _ 4 8 7 W hW (by rw [kn_len.2.1]; omega)
    rwa [kn_right.2] at this)
  have HL : Hid (∀ m W, MapIs W m kn2 → Calls Try.prog 14 #[.pointer (some ⟨m, 0, none⟩)] W fun e w' => e = .returned (.int .i64 10) ∧ Below W.heap.size W w') := Lib.hid (fun m W hW => by
    have := len_b m _ W hW
    rwa [kn_len.2.2] at this)
  go_enter Try.func13, Try.ntmps13
  go_wp2_with fail
  refine HN.out.mono ?_
  rintro e w1 ⟨m, rfl, hm, m1, b1⟩
  go_wp2_with fail
  refine (HS1.out m w1 m1).mono ?_
  rintro e w2 ⟨rfl, g2, m2⟩
  have b2 := b1.grown g2 b1.size (fun k hk => by injection hk with hk; omega)
  clear m1 g2 b1
  go_wp2_with fail
  refine (HS2.out m w2 m2).mono ?_
  rintro e w3 ⟨rfl, g3, m3⟩
  have b3 := b2.grown g3 b2.size (fun k hk => by injection hk with hk; omega)
  clear m2 g3 b2
  go_wp2_with fail
  refine (runsM_any m _ w3 m3 (by rw [kn_runs]; simp)).mono ?_
  rintro e w4 ⟨v, rfl, o4, b4⟩
  have m4 := m3.below b4
  have s4 := o4.sl encR_length
  rw [kn_runs] at s4
  have b4' := b3.trans (b4.mono b3.size)
  clear m3 o4 b4
  go_wp2_with fail
  refine (HL.out m w4 m4).mono ?_
  rintro e w5 ⟨rfl, b5⟩
  obtain ⟨A, c, rfl, hc1, hc2, hR⟩ := (s4.over b5).run
  obtain ⟨b, o, rfl, _, g1, g2, g3⟩ := hR 1 (by simp)
  simp only [List.getElem_cons_succ, List.getElem_cons_zero] at g1 g2 g3
  have b5' := b4'.trans (b5.mono b4'.size)
  clear hR s4 m4 b5 b4'
  go_wp2
  go_ret
  exact ⟨rfl, b5'⟩
end Go.Proofs.Ytpcjklfdgjeamaa
