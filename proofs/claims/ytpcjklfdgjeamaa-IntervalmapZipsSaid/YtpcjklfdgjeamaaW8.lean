/- Walks: Splice, Set, Add. -/
import Derived.Test.YtpcjklfdgjeamaaW7
namespace Go.Proofs.Ytpcjklfdgjeamaa
open Go.RowKit

/-- The error of Splice, and the values behind it. -/
def spliceE (n a r i : Int) : Int := if r < 0 ∨ i < 0 ∨ a < 0 ∨ n < a ∨ n - a < r then 2 else if 1048576 - (n - r) < i then 9 else 0
def spliceV (l : List Int) (a r i v : Int) : List Int := if spliceE l.length a r i = 0 then spliceL l a.toNat (a + r).toNat (List.replicate i.toNat v) else l

theorem len_quiet {m : Nat} {R : List Rn} {W : World} (h : MapAt W m R) (n : Nat) :
    Calls Try.prog 14 #[.pointer (some ⟨m, 0, none⟩)] (W.drewN n) fun e w'' => e = .returned (.int .i64 (endOf 0 R)) ∧ ∃ k, w'' = W.drewN k :=
  (len_any m R _ (h.drewN n)).mono fun e w' ⟨he, k, hw⟩ => ⟨he, n + k, by rw [hw, World.drewN_drewN]⟩
theorem len_is (m : Nat) (l : List Int) (w : World) (h : MapIs w m l) :
    Calls Try.prog 14 #[.pointer (some ⟨m, 0, none⟩)] w fun e w' => e = .returned (.int .i64 l.length) ∧ ∃ n, w' = w.drewN n := by
  have := len_any m _ w h
  rwa [len0] at this
theorem len_isq {m : Nat} {l : List Int} {W : World} (h : MapIs W m l) (n : Nat) :
    Calls Try.prog 14 #[.pointer (some ⟨m, 0, none⟩)] (W.drewN n) fun e w'' => e = .returned (.int .i64 l.length) ∧ ∃ k, w'' = W.drewN k := by
  have := len_quiet h n
  rwa [len0] at this

theorem len_b (m : Nat) (l : List Int) (w : World) (h : MapIs w m l) :
    Calls Try.prog 14 #[.pointer (some ⟨m, 0, none⟩)] w fun e w' => e = .returned (.int .i64 l.length) ∧ Below w.heap.size w w' :=
  (len_is m l w h).mono fun e w' ⟨he, k, hw⟩ => ⟨he, by rw [hw]; exact below_drewN (Below.refl _ _) k⟩

set_option maxHeartbeats 1000000 in
theorem splice_any (m : Nat) (l : List Int) (a r i v : Int) (w : World) (h : MapIs w m l) (hl : l.length ≤ 100000) :
    Calls Try.prog 26 #[.pointer (some ⟨m, 0, none⟩), .int .i64 a, .int .i64 r, .int .i64 i, .int .i64 v] w fun e w' => e = .returned (.int .i64 (spliceE l.length a r i)) ∧ w.grownBy w' (some m) ∧ MapIs w' m (spliceV l a r i v) := by
  have bW : Below w.heap.size w ((w.alloc (.cells #[.int .i64 i] 3)).alloc (.cells #[.int .i64 v] 3)) := ((Below.refl _ _).alloc (Nat.le_refl _) _).alloc (by simp) _
  have hmW := h.below bW
  have H2 : spliceE l.length a r i = 2 → spliceV l a r i v = l := fun e => by unfold spliceV; rw [e]; rfl
  have H9 : spliceE l.length a r i = 9 → spliceV l a r i v = l := fun e => by unfold spliceV; rw [e]; rfl
  have HB := Lib.hid bW
  have c1 : ((w.alloc (.cells #[.int .i64 i] 3)).alloc (.cells #[.int .i64 v] 3)).cell? ⟨w.heap.size, 0, none⟩ = some (.int .i64 i) :=
    cell_over (cells_new w [.int .i64 i] 3 0 _ rfl) ((Below.refl _ _).alloc (Nat.le_refl _) _)
  have c2 : ((w.alloc (.cells #[.int .i64 i] 3)).alloc (.cells #[.int .i64 v] 3)).cell? ⟨w.heap.size + 1, 0, none⟩ = some (.int .i64 v) :=
    cells_at _ [.int .i64 v] 3 (by simp) 0 _ rfl
  obtain ⟨n, hn⟩ : ∃ n, n = l.length := ⟨_, rfl⟩
  have HL := Lib.hid (fun W (hW : MapIs W m l) => len_is m l W hW)
  have HQ := Lib.hid (fun W (hW : MapIs W m l) => len_isq hW)
  rw [← hn] at HL HQ H2 H9 hl ⊢
  have HH := Lib.hid h
  have HMW := Lib.hid hmW
  have hn0 : 0 ≤ (n : Int) := by omega
  have HN := Lib.hid hn
  clear h hmW bW hn
  by_cases k1 : r < 0
  · have HE : Hid (spliceE n a r i = 2) := Lib.hid (by rw [spliceE, if_pos (.inl k1)])
    have HV := Lib.hid (H2 HE.out)
    clear H2 H9
    go_enter Try.func26, Try.ntmps26
    go_wp2
    go_ret
    exact ⟨ret_int HE.out.symm, grown_below HB.out _, by rw [HV.out]; exact HMW.out⟩
  · by_cases k2 : i < 0
    · have HE : Hid (spliceE n a r i = 2) := Lib.hid (by rw [spliceE, if_pos (by omega)])
      have HV := Lib.hid (H2 HE.out)
      clear H2 H9
      go_enter Try.func26, Try.ntmps26
      go_wp2_with (go_at_call 14; refine (HL.out _ (by first | exact HMW.out | exact HMW.out.drewN _)).mono ?_; rintro e w1 ⟨rfl, q, rfl⟩)
      go_ret
      exact ⟨ret_int HE.out.symm, grown_below (by first | exact HB.out | exact below_drewN HB.out _ | exact below_drewN (below_drewN HB.out _) _) _, by rw [HV.out]; first | exact HMW.out | exact HMW.out.drewN _ | exact (HMW.out.drewN _).drewN _⟩
    · by_cases k3 : a < 0
      · have HE : Hid (spliceE n a r i = 2) := Lib.hid (by rw [spliceE, if_pos (by omega)])
        have HV := Lib.hid (H2 HE.out)
        clear H2 H9
        go_enter Try.func26, Try.ntmps26
        go_wp2_with (go_at_call 14; refine (HL.out _ (by first | exact HMW.out | exact HMW.out.drewN _)).mono ?_; rintro e w1 ⟨rfl, q, rfl⟩)
        go_ret
        exact ⟨ret_int HE.out.symm, grown_below (by first | exact HB.out | exact below_drewN HB.out _ | exact below_drewN (below_drewN HB.out _) _) _, by rw [HV.out]; first | exact HMW.out | exact HMW.out.drewN _ | exact (HMW.out.drewN _).drewN _⟩
      · by_cases k4 : (n : Int) < a
        · have HE : Hid (spliceE n a r i = 2) := Lib.hid (by rw [spliceE, if_pos (by omega)])
          have HV := Lib.hid (H2 HE.out)
          clear H2 H9
          go_enter Try.func26, Try.ntmps26
          go_wp2_with (go_at_call 14; refine (HL.out _ (by first | exact HMW.out | exact HMW.out.drewN _)).mono ?_; rintro e w1 ⟨rfl, q, rfl⟩)
          go_ret
          exact ⟨ret_int HE.out.symm, grown_below (by first | exact HB.out | exact below_drewN HB.out _ | exact below_drewN (below_drewN HB.out _) _) _, by rw [HV.out]; first | exact HMW.out | exact HMW.out.drewN _ | exact (HMW.out.drewN _).drewN _⟩
        · by_cases k5 : (n : Int) - a < r
          · have HE : Hid (spliceE n a r i = 2) := Lib.hid (by rw [spliceE, if_pos (by omega)])
            have HV := Lib.hid (H2 HE.out)
            clear H2 H9
            go_enter Try.func26, Try.ntmps26
            go_wp2_with (go_at_call 14; refine (HL.out _ (by first | exact HMW.out | exact HMW.out.drewN _)).mono ?_; rintro e w1 ⟨rfl, q, rfl⟩)
            go_ret
            exact ⟨ret_int HE.out.symm, grown_below (by first | exact HB.out | exact below_drewN HB.out _ | exact below_drewN (below_drewN HB.out _) _) _, by rw [HV.out]; first | exact HMW.out | exact HMW.out.drewN _ | exact (HMW.out.drewN _).drewN _⟩
          · have hx1 : a + r ≤ n := by omega
            have HLB : Hid (∀ W, MapIs W m l → Calls Try.prog 14 #[.pointer (some ⟨m, 0, none⟩)] W fun e w' => e = .returned (.int .i64 n) ∧ Below W.heap.size W w') := Lib.hid (fun W hW => by have := len_b m l W hW; rwa [← HN.out] at this)
            have hw1 : IntKind.i64.wrap ((n : Int) - r) = n - r := IntWalk.i64_in _ (by omega)
            have hw2 : IntKind.i64.wrap (1048576 - ((n : Int) - r)) = 1048576 - ((n : Int) - r) := IntWalk.i64_in _ (by omega)
            have e4 : decide ((n : Int) < a) = false := by simp; omega
            have e5 : decide ((n : Int) - a < r) = false := by simp; omega
            by_cases k6 : 1048576 - ((n : Int) - r) < i
            · have HE : Hid (spliceE n a r i = 9) := Lib.hid (by rw [spliceE, if_neg (by omega), if_pos k6])
              have HV := Lib.hid (H9 HE.out)
              clear H2 H9
              go_enter Try.func26, Try.ntmps26
              go_wp2_with fail
              refine (HLB.out _ HMW.out).mono ?_
              rintro e w1 ⟨rfl, b1⟩
              have m1 := HMW.out.below b1
              have d1 := cell_over c1 b1
              have g1 : Below w.heap.size w w1 := HB.out.trans (b1.mono HB.out.size)
              go_wp2_with fail
              refine (HLB.out _ m1).mono ?_
              rintro e w2 ⟨rfl, b2⟩
              have m2 := m1.below b2
              have d2 := cell_over d1 b2
              have g2 : Below w.heap.size w w2 := g1.trans (b2.mono g1.size)
              clear c1 c2 b1 m1 d1 g1 b2
              go_wp2_with fail
              go_quiet ((go_at_call 14; exact HQ.out w2 m2 _))
              go_wp2
              go_ret
              exact ⟨ret_int HE.out.symm, grown_below (below_drewN g2 _) _, by rw [HV.out]; exact m2.drewN _⟩
            · have HE : Hid (spliceE n a r i = 0) := Lib.hid (by rw [spliceE, if_neg (by omega), if_neg k6])
              have HV : Hid (spliceV l a r i v = spliceL l a.toNat (a + r).toNat (List.replicate i.toNat v)) := Lib.hid (by unfold spliceV; rw [← HN.out, HE.out]; rfl)
              have hnl := HN.out
              have HCH := Lib.hid (fun W hm h1 h2 => changeS_any m l a (a + r) w.heap.size (w.heap.size + 1) i v W hm (by omega) (by omega) (by omega) (by omega) h1 h2 (by omega) (by omega))
              clear H2 H9 hnl
              go_enter Try.func26, Try.ntmps26
              go_wp2_with fail
              refine (HLB.out _ HMW.out).mono ?_
              rintro e w1 ⟨rfl, b1⟩
              have m1 := HMW.out.below b1
              have d1 := cell_over c1 b1
              have f1 := cell_over c2 b1
              have g1 : Below w.heap.size w w1 := HB.out.trans (b1.mono HB.out.size)
              go_wp2_with fail
              refine (HLB.out _ m1).mono ?_
              rintro e w2 ⟨rfl, b2⟩
              have m2 := m1.below b2
              have d2 := cell_over d1 b2
              have f2 := cell_over f1 b2
              have g2 : Below w.heap.size w w2 := g1.trans (b2.mono g1.size)
              clear c1 c2 b1 m1 d1 g1 b2 f1
              go_wp2_with fail
              go_quiet ((go_at_call 14; exact HQ.out w2 m2 _))
              go_wp2_with fail
              refine (HCH.out _ (m2.drewN _) d2 f2).mono ?_
              rintro e w3 ⟨rfl, g3, m3⟩
              rw [← HV.out] at m3
              have g4 := grown_trans (grown_below (below_drewN g2 nq) (some m)) g3
              clear d2 f2 m2 g3
              go_wp2
              go_ret
              exact ⟨ret_int HE.out.symm, g4, m3⟩
end Go.Proofs.Ytpcjklfdgjeamaa
