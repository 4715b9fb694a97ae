/- Walks of the reference: New, Right, Set, Add, Splice. -/
import Derived.Test.YtpcjklfdgjeamaaW10
namespace Go.Proofs.Ytpcjklfdgjeamaa
open Go.RowKit

def encI (x : Int) : List Value := [.int .i64 x]
theorem encI_length (x : Int) : (encI x).length = 1 := rfl
theorem encI_one (x : Int) : ∀ u ∈ encI x, u.oneCell' = true := by
  intro u hu
  simp only [encI, List.mem_singleton] at hu
  subst hu; rfl
theorem encI_int : AllInt encI := fun x u hu => by
  simp only [encI, List.mem_singleton] at hu
  subst hu; exact ⟨_, _, rfl⟩
abbrev IntsV := Sl encI 1
abbrev OwnI := Own encI 1 3
theorem info3 : (Try.prog.info? 3).map (fun i => (i.zero, i.size, i.bytes)) = some (some (.int .i64 0), 1, 8) := by kernel_rfl

set_option maxHeartbeats 400000 in
theorem rnew_any (n v : Int) (w : World) (hn : n ≤ 1048576) :
    Calls Try.prog 36 #[.int .i64 n, .int .i64 v] w fun e w' => ∃ v', e = .returned v' ∧ OwnI w' w.heap.size v' (newL n v) ∧ Below w.heap.size w w' := by
  obtain ⟨i0, hi, hz0, hz1, hz2⟩ := info_parts info3
  go_enter Try.func36, Try.ntmps36
  go_wp2
  go_loopw [5, 6] (fun out iv wr => ∃ k : Nat, k ≤ n.toNat ∧ iv = .int .i64 k ∧ OwnI wr w.heap.size out (List.replicate k v) ∧ Below w.heap.size w wr) (fun _ iv _ => (n - intOf iv).toNat)
  case atStart => exact ⟨0, Nat.zero_le _, rfl, Own.nil _ _, Below.refl _ _⟩
  case round =>
    obtain ⟨k, hk, rfl, hown, hb⟩ := hrel
    have hbz := hb.size
    by_cases hlt : (k : Int) < n
    · have HS := Lib.hid (show List.replicate (k + 1) v = List.replicate k v ++ [v] from List.replicate_succ')
      go_wp2_with (at_builtin; refine wpList_push _ rfl _ _ 36 rfl w.heap.size 3 i0 _ 1 8 Try.underlying36 hi hz0 hz1 hz2 rfl (by decide) encI_length encI_one _ _ rfl (hown.alloc _) _ _ v rfl (cells_at _ _ _ rfl) ?c1 ?c2 ?c3 ?_)
      case c1 => rw [List.length_replicate]; omega
      case c2 => rw [List.length_replicate]; omega
      case c3 => simp; omega
      intro v' w1 hown1 hg1
      have hb1 : Below w.heap.size w w1 := (hb.alloc hbz _).grown hg1 (by simp; omega) (fun q hq => (hown.lt q hq).1)
      rw [← HS.out] at hown1
      clear hown
      go_wp2
      go_roundw
      case rel => exact ⟨k + 1, by omega, by go_num, hown1, hb1⟩
      case measure => simp [intOf]; omega
    · have HE : Hid (List.replicate k v = newL n v) := Lib.hid (by rw [newL]; congr 1; omega)
      go_wp2
      go_ret
      exact ⟨_, rfl, by rw [← HE.out]; exact hown, hb⟩

set_option maxHeartbeats 400000 in
theorem rright_any (n p q : Int) (w : World) : Calls Try.prog 20 #[.int .i64 n, .int .i64 p, .int .i64 q] w fun e w' => e = .returned (.bool (rightB n p q)) ∧ w = w' := by
  by_cases h1 : 0 ≤ p
  · by_cases h2 : p ≤ q
    · have HR : Hid (rightB n p q = decide (q ≤ n)) := Lib.hid (by simp [rightB, h1, h2])
      go_enter Try.func20, Try.ntmps20
      go_wp2
      go_ret
      exact ⟨ret_bool HR.out.symm, rfl⟩
    · have HR : Hid (rightB n p q = false) := Lib.hid (by simp [rightB, h2])
      go_enter Try.func20, Try.ntmps20
      go_wp2
      go_ret
      exact ⟨ret_bool HR.out.symm, rfl⟩
  · have HR : Hid (rightB n p q = false) := Lib.hid (by simp [rightB, h1])
    go_enter Try.func20, Try.ntmps20
    go_wp2
    go_ret
    exact ⟨ret_bool HR.out.symm, rfl⟩

/-- An element of an own slice of numbers: its cell. -/
theorem owni_at {W : World} {B : Nat} {v : Value} {l : List Int} (h : OwnI W B v l) (k : Nat) (hk : k < l.length) :
    ∃ g cap, v = .slice (some ⟨g, 0, none⟩) l.length cap ∧ l.length ≤ cap ∧ cap ≤ 9223372036854775807 ∧ B ≤ g ∧ g < W.heap.size ∧
      W.cell? ⟨g, k, none⟩ = some (.int .i64 l[k]) ∧ ∀ i, W.frozen? ⟨g, i, none⟩ = false := by
  obtain ⟨g, cap, rfl, hkc, hcm⟩ := h.some (by omega)
  obtain ⟨cur, hblk, hg1, hg2⟩ := h.blk
  obtain ⟨_, _, he1, _, _, hcl⟩ := h.sl encI_length
  injection he1 with he1 _ he2
  subst he1 he2
  obtain ⟨g', o', he1, _, hcl⟩ := hcl (by omega)
  injection he1 with he1
  injection he1 with he1 he2
  subst he1 he2
  have c0 := hcl k l[k] (by simp) 0 _ rfl
  simp only [Nat.zero_add, Nat.add_zero, Nat.mul_one] at c0
  exact ⟨g, cap, rfl, hkc, by unfold maxLen at hcm; omega, hg1, hg2, c0, fun i => blk_free hblk i⟩
theorem owni_set {W : World} {B g n cap : Nat} {l : List Int} (h : OwnI W B (.slice (some ⟨g, 0, none⟩) n cap) l) (k : Nat) (hk : k < l.length) (z : Int) :
    OwnI (W.setCell ⟨g, k, none⟩ (.int .i64 z)) B (.slice (some ⟨g, 0, none⟩) n cap) (l.set k z) := by
  have := h.set encI_length k 0 (.int .i64 z) z hk (by omega) rfl
  simpa using this

/-- Values of which a range is set, or changed one by one. -/
def mapTo (l : List Int) (p k : Nat) (f : Int → Int) : List Int := l.take p ++ ((l.drop p).take (k - p)).map f ++ l.drop k
theorem mapTo_start (l : List Int) (p : Nat) (f : Int → Int) : mapTo l p p f = l := by simp [mapTo]
theorem mapTo_length (l : List Int) (p k : Nat) (f : Int → Int) (h1 : p ≤ k) (h2 : k ≤ l.length) : (mapTo l p k f).length = l.length := by
  simp [mapTo]; omega
theorem mapTo_get (l : List Int) (p k : Nat) (f : Int → Int) (h1 : p ≤ k) (h2 : k < l.length) : (mapTo l p k f)[k]'(by rw [mapTo_length l p k f h1 (by omega)]; exact h2) = l[k] := by
  unfold mapTo
  rw [List.getElem_append_right (by simp; omega)]
  simp only [List.getElem_drop]
  congr 1
  simp; omega
theorem mapTo_step (l : List Int) (p k : Nat) (f : Int → Int) (h1 : p ≤ k) (h2 : k < l.length) : (mapTo l p k f).set k (f l[k]) = mapTo l p (k + 1) f := by
  unfold mapTo
  have hl : (l.take p ++ ((l.drop p).take (k - p)).map f).length = k := by simp; omega
  rw [List.set_append_right _ _ (by omega), hl, Nat.sub_self, List.drop_eq_getElem_cons h2, List.set_cons_zero]
  rw [show k + 1 - p = (k - p) + 1 by omega, List.take_succ_eq_append_getElem (by simp; omega)]
  simp only [List.map_append, List.map_cons, List.map_nil, List.append_assoc, List.cons_append, List.nil_append, List.getElem_drop]
  congr 4
  congr 1
  omega
theorem mapTo_set (l : List Int) (p q : Nat) (v : Int) (h1 : p ≤ q) (h2 : q ≤ l.length) : mapTo l p q (fun _ => v) = spliceL l p q (List.replicate (q - p) v) := by
  unfold mapTo spliceL
  congr 2
  rw [List.map_const']
  congr 1
  simp; omega

set_option maxHeartbeats 1000000 in
theorem rset_any (lv : Value) (l : List Int) (p q v : Int) (w : World) (h : IntsV w w.heap.size lv l) (hl : l.length ≤ 100000) (hr : rightB l.length p q = true) :
    Calls Try.prog 37 #[lv, .int .i64 p, .int .i64 q, .int .i64 v] w fun e w' => ∃ v', e = .returned v' ∧ OwnI w' w.heap.size v' (setV l p q v) ∧ Below w.heap.size w w' := by
  obtain ⟨i0, hi, hz0, hz1, hz2⟩ := info_parts info3
  have HV : Hid (setV l p q v = mapTo l p.toNat q.toNat fun _ => v) := Lib.hid (by
    obtain ⟨h0, h1, h2⟩ := right_iff.1 hr
    rw [mapTo_set _ _ _ _ (by omega) (by omega), setV, if_pos hr]
    congr 2; omega)
  obtain ⟨h0, h1, h2⟩ := right_iff.1 hr
  obtain ⟨p, rfl⟩ := Int.eq_ofNat_of_zero_le h0
  obtain ⟨q, rfl⟩ := Int.eq_ofNat_of_zero_le (show 0 ≤ q by omega)
  rw [Int.toNat_natCast, Int.toNat_natCast] at HV
  have hown := (Own.empty (enc := encI) (sz := 1) (E := 3) w w.heap.size (Nat.le_refl _))
  have H := Lib.hid (h.below ((Below.refl _ w).alloc (Nat.le_refl _) (.cells #[] 3)))
  have HL := Lib.hid hl
  have HH := Lib.hid (And.intro h1 h2)
  obtain ⟨A, c, rfl, hc1, hc2, _⟩ := id h
  clear h hr h0 h1 h2
  go_enter Try.func37, Try.ntmps37
  go_wp2_with (at_builtin; refine wpList_append_sl _ rfl _ _ 36 rfl w.heap.size 3 i0 _ 8 Try.underlying36 hi hz0 hz1 hz2 rfl (by decide) encI_length encI_one _ [] rfl hown w.heap.size _ l rfl H.out ?c1 ?c2 ?c3 ?_)
  case c1 => simp; omega
  case c2 => simp; omega
  case c3 => simp
  intro v1 w1 hown1 hg
  have hown1 : OwnI w1 w.heap.size v1 l := by simpa using hown1
  have hb1 : Below w.heap.size w w1 := ((Below.refl _ w).alloc (Nat.le_refl _) _).grown hg (by simp) (fun q hq => by simp [Value.ownBlock] at hq; omega)
  obtain ⟨A1, c1, rfl, _, _⟩ := hown1.shape
  clear hown hg
  go_wp2
  obtain ⟨wo, hwo⟩ : ∃ wo : World, wo = w1 := ⟨_, rfl⟩
  rw [← hwo] at hown1 hb1 ⊢
  clear hwo
  obtain ⟨n, hn⟩ : ∃ n, n = l.length := ⟨_, rfl⟩
  rw [← hn] at hown1 ⊢
  have HN := Lib.hid hn
  clear hn
  go_loopw [10] (fun iv wr => ∃ k : Nat, p ≤ k ∧ k ≤ q ∧ iv = .int .i64 k ∧ OwnI wr w.heap.size (.slice A1 n c1) (mapTo l p k fun _ => v) ∧ Below w.heap.size w wr) (fun iv _ => q - (intOf iv).toNat)
  case atStart => exact ⟨p, Nat.le_refl _, by have := HH.out.1; omega, rfl, by rw [mapTo_start]; exact hown1, hb1⟩
  case round =>
    clear hown1 hb1
    obtain ⟨k, hk1, hk2, rfl, hown, hb⟩ := hrel
    by_cases hlt : k < q
    · have hkl : k < l.length := by have := HH.out; omega
      have hml := mapTo_length l p k (fun _ => v) hk1 (by omega)
      obtain ⟨g, cap, he, hlc, _, hg1, _, c2, hfr⟩ := owni_at hown k (by omega)
      injection he with he1 he2 he3
      subst he1
      have hs := owni_set hown k (by omega) v
      rw [mapTo_step l p k (fun _ => v) hk1 hkl] at hs
      have f2 := hfr k
      have hkn : (k : Int) < (n : Int) := by have := HN.out; omega
      have hbs := hb.setCell (p := ⟨g, k, none⟩) hg1 (.int .i64 v)
      obtain ⟨x, hx⟩ : ∃ x, x = (mapTo l p k fun _ => v)[k]'(by omega) := ⟨_, rfl⟩
      rw [← hx] at c2
      clear hown hml he2 he3 hx hfr hlc
      go_wp2
      go_roundw
      case rel => exact ⟨k + 1, by omega, by omega, by go_num, hs, hbs⟩
      case measure => simp [intOf]; omega
    · obtain rfl : k = q := by omega
      go_wp2
      go_ret
      exact ⟨_, rfl, by rw [HV.out]; exact hown, hb⟩
end Go.Proofs.Ytpcjklfdgjeamaa
