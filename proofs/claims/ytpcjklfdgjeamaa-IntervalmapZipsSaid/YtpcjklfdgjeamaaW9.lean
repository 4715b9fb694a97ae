/- Walks: Set, Add, New, Runs, Clone. -/
import Derived.Test.YtpcjklfdgjeamaaW8
namespace Go.Proofs.Ytpcjklfdgjeamaa
open Go.RowKit

def rightE (n p q : Int) : Int := if rightB n p q then 0 else 2
def setV (l : List Int) (p q v : Int) : List Int := if rightB l.length p q then spliceL l p.toNat q.toNat (List.replicate (q - p).toNat v) else l
def addV (l : List Int) (p q d : Int) : List Int := if rightB l.length p q then spliceL l p.toNat q.toNat (((l.drop p.toNat).take (q.toNat - p.toNat)).map fun v => wr64 (v + d)) else l

theorem right_is (m : Nat) (l : List Int) (p q : Int) (w : World) (h : MapIs w m l) :
    Calls Try.prog 40 #[.pointer (some ⟨m, 0, none⟩), .int .i64 p, .int .i64 q] w fun e w' => e = .returned (.bool (rightB l.length p q)) ∧ Below w.heap.size w w' := by
  have := right_any m _ p q w h
  rw [len0] at this
  exact this.mono fun e w' ⟨he, k, hw⟩ => ⟨he, by rw [hw]; exact below_drewN (Below.refl _ _) k⟩

theorem right_iff {n p q : Int} : rightB n p q = true ↔ 0 ≤ p ∧ p ≤ q ∧ q ≤ n := by
  unfold rightB; simp [and_assoc]

set_option maxHeartbeats 400000 in
theorem set_any (m : Nat) (l : List Int) (p q v : Int) (w : World) (h : MapIs w m l) (hl : l.length ≤ 100000) :
    Calls Try.prog 23 #[.pointer (some ⟨m, 0, none⟩), .int .i64 p, .int .i64 q, .int .i64 v] w fun e w' => e = .returned (.int .i64 (rightE l.length p q)) ∧ w.grownBy w' (some m) ∧ MapIs w' m (setV l p q v) := by
  have HR := Lib.hid (right_is m l p q w h)
  obtain ⟨n, hn⟩ : ∃ n, n = l.length := ⟨_, rfl⟩
  by_cases hr : rightB l.length p q = true
  · obtain ⟨h0, h1, h2⟩ := right_iff.1 hr
    have HE : Hid (rightE l.length p q = 0) := Lib.hid (by rw [rightE, if_pos hr])
    have HV : Hid (setV l p q v = spliceV l p (q - p) (q - p) v) := Lib.hid (by
      unfold setV spliceV
      rw [if_pos hr, if_pos (by rw [spliceE, if_neg (by omega), if_neg (by omega)]), show p + (q - p) = q by omega])
    have HS : Hid (∀ W, MapIs W m l → Calls Try.prog 26 #[.pointer (some ⟨m, 0, none⟩), .int .i64 p, .int .i64 (q - p), .int .i64 (q - p), .int .i64 v] W fun e w' => e = .returned (.int .i64 0) ∧ W.grownBy w' (some m) ∧ MapIs w' m (spliceV l p (q - p) (q - p) v)) := Lib.hid (fun W hW => by
      have := splice_any m l p (q - p) (q - p) v W hW hl
      rwa [show spliceE l.length p (q - p) (q - p) = 0 by rw [spliceE, if_neg (by omega), if_neg (by omega)]] at this)
    have HH := Lib.hid h
    rw [hr] at HR
    clear h hr hn
    go_enter Try.func23, Try.ntmps23
    go_wp2_with fail
    refine HR.out.mono ?_
    rintro e w1 ⟨rfl, b1⟩
    go_wp2_with fail
    refine (HS.out w1 (HH.out.below b1)).mono ?_
    rintro e w2 ⟨rfl, g2, m2⟩
    rw [← HV.out] at m2
    go_wp2
    go_ret
    exact ⟨ret_int HE.out.symm, grown_trans (grown_below b1 _) g2, m2⟩
  · have HE : Hid (rightE l.length p q = 2) := Lib.hid (by rw [rightE, if_neg hr])
    have HV : Hid (setV l p q v = l) := Lib.hid (by rw [setV, if_neg hr])
    have HH := Lib.hid h
    rw [Bool.not_eq_true] at hr
    rw [hr] at HR
    clear h hr hn
    go_enter Try.func23, Try.ntmps23
    go_wp2_with fail
    refine HR.out.mono ?_
    rintro e w1 ⟨rfl, b1⟩
    go_wp2
    go_ret
    exact ⟨ret_int HE.out.symm, grown_below b1 _, by rw [HV.out]; exact HH.out.below b1⟩

set_option maxHeartbeats 400000 in
theorem add_any (m : Nat) (l : List Int) (p q d : Int) (w : World) (h : MapIs w m l) (hl : l.length ≤ 100000) :
    Calls Try.prog 34 #[.pointer (some ⟨m, 0, none⟩), .int .i64 p, .int .i64 q, .int .i64 d] w fun e w' => e = .returned (.int .i64 (rightE l.length p q)) ∧ w.grownBy w' (some m) ∧ MapIs w' m (addV l p q d) := by
  have bW : Below w.heap.size w (w.alloc (.cells #[.int .i64 d] 3)) := (Below.refl _ _).alloc (Nat.le_refl _) _
  have hmW := h.below bW
  have HR := Lib.hid (right_is m l p q _ hmW)
  have c1 : (w.alloc (.cells #[.int .i64 d] 3)).cell? ⟨w.heap.size, 0, none⟩ = some (.int .i64 d) := cells_new w [.int .i64 d] 3 0 _ rfl
  by_cases hr : rightB l.length p q = true
  · obtain ⟨h0, h1, h2⟩ := right_iff.1 hr
    have HE : Hid (rightE l.length p q = 0) := Lib.hid (by rw [rightE, if_pos hr])
    have HV : Hid (addV l p q d = spliceL l p.toNat q.toNat (((l.drop p.toNat).take (q.toNat - p.toNat)).map fun v => wr64 (v + d))) := Lib.hid (by rw [addV, if_pos hr])
    have HS := Lib.hid (fun W hm h1' => changeA_any m l p q w.heap.size d W hm hl h0 h1 h2 h1')
    have HH := Lib.hid hmW
    have HB := Lib.hid bW
    rw [hr] at HR
    clear h hr hmW bW
    go_enter Try.func34, Try.ntmps34
    go_wp2_with fail
    refine HR.out.mono ?_
    rintro e w1 ⟨rfl, b1⟩
    have d1 := cell_over c1 b1
    have m1 := HH.out.below b1
    have g1 : Below w.heap.size w w1 := HB.out.trans (b1.mono HB.out.size)
    clear c1 b1
    go_wp2_with fail
    refine (HS.out w1 m1 d1).mono ?_
    rintro e w2 ⟨rfl, g2, m2⟩
    rw [← HV.out] at m2
    have g3 := grown_trans (grown_below g1 _) g2
    clear d1 m1 g1 g2
    go_wp2
    go_ret
    exact ⟨ret_int HE.out.symm, g3, m2⟩
  · have HE : Hid (rightE l.length p q = 2) := Lib.hid (by rw [rightE, if_neg hr])
    have HV : Hid (addV l p q d = l) := Lib.hid (by rw [addV, if_neg hr])
    have HH := Lib.hid hmW
    have HB := Lib.hid bW
    rw [Bool.not_eq_true] at hr
    rw [hr] at HR
    clear h hr hmW bW c1
    go_enter Try.func34, Try.ntmps34
    go_wp2_with fail
    refine HR.out.mono ?_
    rintro e w1 ⟨rfl, b1⟩
    go_wp2
    go_ret
    exact ⟨ret_int HE.out.symm, grown_below (HB.out.trans (b1.mono HB.out.size)) _, by rw [HV.out]; exact HH.out.below b1⟩

/-- The runs of equal values. -/
theorem runs_rep (n : Nat) (v : Int) : runsOf (List.replicate (n + 1) v) = [(0, ((n + 1 : Nat) : Int), v)] := by
  have := runsF_rep v [] n [] 0
  rw [List.append_nil] at this
  unfold runsOf
  rw [this, addR_nil, Int.zero_add]
  rfl
def newL (n v : Int) : List Int := List.replicate n.toNat v

/-- What New returns: a map with equal values, or nothing and an error. -/
def NewPost (w : World) (n v : Int) (e : Ending) (w' : World) : Prop :=
  (0 ≤ n ∧ n ≤ 1048576 ∧ ∃ m, e = .returned (.tuple #[.pointer (some ⟨m, 0, none⟩), .int .i64 0]) ∧ w.heap.size ≤ m ∧ MapIs w' m (newL n v) ∧ Below w.heap.size w w') ∨
  ((n < 0 ∨ 1048576 < n) ∧ e = .returned (.tuple #[.pointer none, .int .i64 2]) ∧ w = w')

set_option maxHeartbeats 400000 in
theorem new_any (n v : Int) (w : World) : Calls Try.prog 12 #[.int .i64 n, .int .i64 v] w (NewPost w n v) := by
  by_cases h1 : n < 0
  · go_enter Try.func12, Try.ntmps12
    go_wp2
    go_ret2
    exact .inr ⟨.inl h1, rfl, rfl⟩
  · by_cases h2 : 1048576 < n
    · go_enter Try.func12, Try.ntmps12
      go_wp2
      go_ret2
      exact .inr ⟨.inr h2, rfl, rfl⟩
    · by_cases h3 : 0 < n
      · have HM : Hid (MapIs ((w.alloc (.cells #[.slice (some ⟨w.heap.size + 1, 0, none⟩) 1 1] 78)).alloc (.cells #[.int .i64 0, .int .i64 n, .int .i64 v] 31)) w.heap.size (newL n v)) := Lib.hid (by
          refine ⟨_, (Below.heap_alloc _ _ _ (by simp)).trans (heap_alloc_new _ _), ?_⟩
          have ho := own_one (enc := encR) (sz := 3) (E := 31) (w.alloc (.cells #[.slice (some ⟨w.heap.size + 1, 0, none⟩) 1 1] 78)) (0, n, v) rfl 0 (Nat.zero_le _)
          have := ho.sl encR_length
          simp only [World.size_alloc] at this ⊢
          have e : runsOf (newL n v) = [(0, n, v)] := by
            obtain ⟨k, rfl⟩ := Int.eq_ofNat_of_zero_le (show 0 ≤ n by omega)
            obtain ⟨j, rfl⟩ : ∃ j, k = j + 1 := ⟨k - 1, by omega⟩
            exact runs_rep j v
          rw [e]
          exact this)
        have HB : Hid (Below w.heap.size w ((w.alloc (.cells #[.slice (some ⟨w.heap.size + 1, 0, none⟩) 1 1] 78)).alloc (.cells #[.int .i64 0, .int .i64 n, .int .i64 v] 31))) := Lib.hid
          (((Below.refl _ _).alloc (Nat.le_refl _) _).alloc (by simp) _)
        go_enter Try.func12, Try.ntmps12
        go_wp2
        go_ret2
        exact .inl ⟨by omega, by omega, _, rfl, Nat.le_refl _, HM.out, HB.out⟩
      · obtain rfl : n = 0 := by omega
        have HM : Hid (MapIs (w.alloc (.cells #[.slice none 0 0] 78)) w.heap.size (newL 0 v)) := Lib.hid ⟨_, heap_alloc_new _ _, Sl.nil _ _⟩
        go_enter Try.func12, Try.ntmps12
        go_wp2
        go_ret2
        exact .inl ⟨by omega, by omega, _, rfl, Nat.le_refl _, HM.out, (Below.refl _ _).alloc (Nat.le_refl _) _⟩

set_option maxHeartbeats 400000 in
theorem runsM_any (m : Nat) (R : List Rn) (w : World) (h : MapAt w m R) (hl : R.length ≤ 2097152) :
    Calls Try.prog 15 #[.pointer (some ⟨m, 0, none⟩)] w fun e w' => ∃ v', e = .returned v' ∧ OwnR w' w.heap.size v' R ∧ Below w.heap.size w w' := by
  obtain ⟨v, hm, hv⟩ := h
  have h0 : w.cell? ⟨m, 0, none⟩ = some v := blk_cell hm 0
  have H := Lib.hid (clone_any v R w hv hl)
  obtain ⟨A, c, rfl, _, _, _⟩ := hv
  clear hm
  go_enter Try.func15, Try.ntmps15
  go_wp2_with fail
  refine H.out.mono ?_
  rintro e w1 ⟨v', rfl, ho, hb⟩
  go_wp2
  go_ret
  exact ⟨v', rfl, ho, hb⟩

set_option maxHeartbeats 400000 in
theorem cloneM_any (m : Nat) (R : List Rn) (w : World) (h : MapAt w m R) (hl : R.length ≤ 2097152) :
    Calls Try.prog 22 #[.pointer (some ⟨m, 0, none⟩)] w fun e w' => ∃ m', e = .returned (.pointer (some ⟨m', 0, none⟩)) ∧ w.heap.size ≤ m' ∧ MapAt w' m' R ∧ Below w.heap.size w w' := by
  obtain ⟨v, hm, hv⟩ := h
  have h0 : w.cell? ⟨m, 0, none⟩ = some v := blk_cell hm 0
  have H := Lib.hid (clone_any v R w hv hl)
  obtain ⟨A, c, rfl, _, _, _⟩ := hv
  clear hm
  go_enter Try.func22, Try.ntmps22
  go_wp2_with fail
  refine H.out.mono ?_
  rintro e w1 ⟨v', rfl, ho, hb⟩
  obtain ⟨A', c', rfl, _, _⟩ := ho.shape
  have hs := ho.sl encR_length
  have hb2 := hb.alloc hb.size (.cells #[.slice A' R.length c'] 78)
  have HM : Hid (MapAt (w1.alloc (.cells #[.slice A' R.length c'] 78)) w1.heap.size R) := Lib.hid ⟨_, heap_alloc_new _ _, hs.over ((Below.refl _ _).alloc (Nat.le_refl _) _)⟩
  clear ho hs
  go_wp2
  go_ret
  exact ⟨_, rfl, hb.size, HM.out, hb2⟩
end Go.Proofs.Ytpcjklfdgjeamaa
