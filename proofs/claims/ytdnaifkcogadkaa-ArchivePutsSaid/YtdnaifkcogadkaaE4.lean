/- Walk: ordered. -/
import Derived.Test.YtdnaifkcogadkaaLib2
namespace Go.Proofs.Ytdnaifkcogadkaa
open Go.RowKit

theorem Sl.empty {α : Type} {enc : α → List Value} {sz : Nat} {w : World} {B n c : Nat} {A : Option Addr} (hn : n = 0) (hc : c ≤ maxLen) : Sl enc sz w B (.slice A n c) ([] : List α) := by
  subst hn
  exact ⟨A, c, rfl, Nat.zero_le _, hc, fun h => by simp at h⟩
theorem gtr_true {x q : Prt} (h : ltN x q) : (!Op.bytesLess q.1.toList x.1.toList && !(q.1.toList == x.1.toList)) = true := by
  have h1 : Op.bytesLess q.1.toList x.1.toList = false := by rw [bytesLess_eq]; simpa using ltN_asymm h
  have h2 : (q.1.toList == x.1.toList) = false := by
    simp only [beq_eq_false_iff_ne, ne_eq]
    intro e
    unfold ltN at h
    rw [e] at h
    exact List.lt_irrefl _ h
  rw [h1, h2]; rfl
theorem gtr_false {x q : Prt} (h : ¬ ltN x q) : (!Op.bytesLess q.1.toList x.1.toList && !(q.1.toList == x.1.toList)) = false := by
  by_cases e : q.1.toList = x.1.toList
  · rw [e]; simp
  · have h1 : q.1.toList < x.1.toList := Decidable.byContradiction fun h2 => e (List.le_antisymm (List.not_lt.1 h) (List.not_lt.1 h2))
    have h3 : Op.bytesLess q.1.toList x.1.toList = true := by rw [bytesLess_eq]; simpa using h1
    rw [h3]; rfl
theorem encP_each (x : Prt) : ∀ u ∈ encP x, u.oneCell' = true := fun u hu => encP_one [x] u (by simpa using hu)

set_option maxRecDepth 100000 in
set_option maxHeartbeats 8000000 in
theorem ordered_any (v : Value) (l : List Prt) (w : World) (h : Parts w w.heap.size v l) (hll : l.length ≤ 1048576) :
    Calls Try.prog 27 #[v] w fun e w' => ∃ v' q, e = .returned v' ∧ q.Perm l ∧ SortedP q ∧ OwnP w' w.heap.size v' q ∧ Below w.heap.size w w' := by
  obtain ⟨A, c, rfl, hlc, hc, HP⟩ := h.part
  have HP := Lib.hid HP
  obtain ⟨i0, hi, hz0, hz1, hz2⟩ := info_parts info38
  clear h
  go_enter Try.func27, Try.ntmps27
  go_wp2_with fail
  go_loopw [3, 4] (fun ov iv wr => ∃ (k : Nat) (q : List Prt), k ≤ l.length ∧ iv = .int .i64 k ∧ Hid (q.Perm (l.take k) ∧ SortedP q) ∧ OwnP wr w.heap.size ov q ∧ Below w.heap.size w wr) (fun _ iv _ => l.length - (intOf iv).toNat)
  case atStart => exact ⟨0, [], Nat.zero_le _, rfl, Lib.hid ⟨List.Perm.refl _, List.Pairwise.nil⟩, Own.nil _ _, Below.refl _ _⟩
  case round =>
    obtain ⟨i, q, hi1, rfl, HQ, hown, hb⟩ := hrel
    have hbz := hb.size
    by_cases hlt : i < l.length
    · obtain ⟨b, o, rfl, hbB, g1, g2⟩ := (HP.out.below hb) i hlt
      have HT : Hid (l.take (i + 1) = l.take i ++ [l[i]]) := Lib.hid (List.take_succ_eq_append_getElem hlt)
      obtain ⟨x, hx⟩ : ∃ x, x = l[i] := ⟨_, rfl⟩
      rw [← hx] at g1 g2 HT
      clear hx
      obtain ⟨x0, x1⟩ := x
      simp only at g1 g2
      have hbW : b < wr.heap.size := by omega
      have hqlm : q.length ≤ 1048576 := by rw [HQ.out.1.length_eq, List.length_take]; omega
      have hown' : wr.ownsRow w.heap.size 38 2 _ q.length (q.flatMap encP) := hown
      rcases hown'.2 with ⟨rfl, hn⟩ | ⟨g, c2, cur, rfl, _, _, hc2, hm2, _⟩
      · obtain rfl : q = [] := List.eq_nil_of_length_eq_zero hn
        clear hown' hn
        go_wp2_with fail
        go_loopw [5] (fun kv wq => kv = .int .i64 0 ∧ wq = wr) (fun kv _ => (intOf kv).toNat)
        case atStart => exact ⟨rfl, rfl⟩
        case round =>
          obtain ⟨rfl, hw⟩ := hrel
          subst hw
          go_wp2_with fail
          go_quiet (fail)
          go_wp2_with fail
          have HLO : Hid (∀ y ∈ ([] : List Prt).take (0), ¬ ltN (x0, x1) y) := Lib.hid (fun y hy => by cases hy)
          have HHI : Hid (∀ y ∈ ([] : List Prt).drop (0), ltN (x0, x1) y) := Lib.hid (fun y hy => by cases hy)
          have bw0 : Below wr.heap.size wr ((wr.drewN nq).alloc (.cells #[.string x0, .string x1] 38)).drew := ((below_drewN (Below.refl _ wr) nq).alloc (Nat.le_refl _) _).drew
          have hO0 : OwnP ((wr.drewN nq).alloc (.cells #[.string x0, .string x1] 38)).drew wr.heap.size (.slice (some ⟨wr.heap.size, 0, none⟩) 1 1) [(x0, x1)] := own_parts1 (wr.drewN nq) (x0, x1)
          have hb20 : ([(x0, x1)].length + (([] : List Prt).drop (0)).length) * 32 ≤ 140737488355328 := by simp only [List.length_cons, List.length_nil, List.length_drop]; omega
          have hb21 : [(x0, x1)].length + (([] : List Prt).drop (0)).length ≤ 140737488355328 := by simp only [List.length_cons, List.length_nil, List.length_drop]; omega
          have hb22 : ((([] : List Prt).take (0)).length + ([(x0, x1)] ++ ([] : List Prt).drop (0)).length) * 32 ≤ 140737488355328 := by simp only [List.length_append, List.length_cons, List.length_nil, List.length_drop, List.length_take]; omega
          have hb23 : (([] : List Prt).take (0)).length + ([(x0, x1)] ++ ([] : List Prt).drop (0)).length ≤ 140737488355328 := by simp only [List.length_append, List.length_cons, List.length_nil, List.length_drop, List.length_take]; omega
          go_region_held_law (fun w' => w'.cell? ⟨b, o + i * 2, none⟩ = some (.string x0) ∧ w'.cell? ⟨b, o + i * 2 + 1, none⟩ = some (.string x1))
            (first
              | exact ⟨g1, g2⟩
              | exact ⟨cell_over g1 bw0, cell_over g2 bw0⟩
              | exact ⟨cell_over g1 bw1, cell_over g2 bw1⟩
              | exact ⟨cell_over g1 bw2, cell_over g2 bw2⟩)
            (first
              | (refine step_append_sl _ (by rfl) _ _ 22 (by rfl) wr.heap.size 38 i0 _ 32 Try.underlying22 hi hz0 hz1 hz2 rfl (by decide) encP_length encP_each (.slice (some ⟨wr.heap.size, 0, none⟩) 1 1) [(x0, x1)] (by rfl) hO0 _ (.slice none 0 0) (([] : List Prt).drop (0)) (by rfl) (Sl.nil _ 0) hb20 hb21 (by simp) ?_; intro v1 w1 hown1 hg1; have bw1 : Below wr.heap.size wr w1 := bw0.trans (OwnP.below hO0 (by simp) hg1))
              | (refine step_append_full _ (by rfl) _ _ 22 (by rfl) 38 i0 _ 32 Try.underlying22 hi hz0 hz1 hz2 rfl (by decide) encP_length encP_each (.slice none 0 0) _ (([] : List Prt).take (0)) (by rfl) ⟨none, rfl⟩ (Sl.nil _ 0) wr.heap.size v1 _ (by rfl) hown1 (by simp) hb22 hb23 ?_; intro v2 w2 hown2 hg2; have bw2 : Below wr.heap.size wr w2 := bw1.trans (Below.mono ((Below.refl _ w1).grown hg2 (Nat.le_refl _) (fun k e => by cases e)) bw1.size)))
          have hown3 := Own.lower hown2 (base' := w.heap.size) (Nat.le_trans hbz bw1.size)
          have hb3 := hb.trans (bw2.mono hbz)
          go_wp2_with fail
          go_roundw
          case rel => exact ⟨i + 1, _, by omega, by go_num, Lib.hid ⟨(insert_perm [] (x0, x1) (0)).trans (by rw [HT.out]; exact List.Perm.append_right _ HQ.out.1), insert_sorted HQ.out.2 HHI.out HLO.out⟩, hown3, hb3⟩
          case measure => simp [intOf]; omega
      · clear hown'
        go_wp2_with fail
        go_loopw [5] (fun kv wq => ∃ k : Nat, k ≤ q.length ∧ kv = .int .i64 k ∧ Hid (∀ y ∈ q.drop k, ltN (x0, x1) y) ∧ wq.cell? ⟨b, o + i * 2, none⟩ = some (.string x0) ∧ wq.cell? ⟨b, o + i * 2 + 1, none⟩ = some (.string x1) ∧ OwnP wq w.heap.size (.slice (some ⟨g, 0, none⟩) q.length c2) q ∧ Below w.heap.size w wq) (fun kv _ => (intOf kv).toNat)
        case atStart => exact ⟨q.length, Nat.le_refl _, rfl, Lib.hid (fun y hy => by rw [List.drop_length] at hy; cases hy), g1, g2, hown, hb⟩
        case round =>
          clear g1 g2 hown hb hbz
          obtain ⟨k, hk, rfl, HK, g1, g2, hown, hb⟩ := hrel
          have hbz := hb.size
          have hsl := hown.sl encP_length
          have hkc : k ≤ c2 := by omega
          have hql : (q.length : Int) ≤ c2 := by omega
          rcases Nat.eq_zero_or_pos k with rfl | hk0
          · go_wp2_with fail
            go_quiet (fail)
            by_cases hcap : c2 = 0
            · have hsrc : ∀ W : World, Sl encP 2 W W.heap.size (.slice (some ⟨g, 0, none⟩) q.length 0) (q.drop 0) := fun W => by
                rw [List.drop_of_length_le (l := q) (i := 0) (by omega)]
                exact Sl.empty (by omega) (by unfold maxLen; omega)
              go_wp2_with fail
              have HLO : Hid (∀ y ∈ q.take (0), ¬ ltN (x0, x1) y) := Lib.hid (fun y hy => by simp at hy)
              have HHI : Hid (∀ y ∈ q.drop (0), ltN (x0, x1) y) := Lib.hid (HK.out)
              have bw0 : Below wr.heap.size wr ((wr.drewN nq).alloc (.cells #[.string x0, .string x1] 38)).drew := ((below_drewN (Below.refl _ wr) nq).alloc (Nat.le_refl _) _).drew
              have hO0 : OwnP ((wr.drewN nq).alloc (.cells #[.string x0, .string x1] 38)).drew wr.heap.size (.slice (some ⟨wr.heap.size, 0, none⟩) 1 1) [(x0, x1)] := own_parts1 (wr.drewN nq) (x0, x1)
              have hb20 : ([(x0, x1)].length + (q.drop (0)).length) * 32 ≤ 140737488355328 := by simp only [List.length_cons, List.length_nil, List.length_drop]; omega
              have hb21 : [(x0, x1)].length + (q.drop (0)).length ≤ 140737488355328 := by simp only [List.length_cons, List.length_nil, List.length_drop]; omega
              have hb22 : ((q.take (0)).length + ([(x0, x1)] ++ q.drop (0)).length) * 32 ≤ 140737488355328 := by simp only [List.length_append, List.length_cons, List.length_nil, List.length_drop, List.length_take]; omega
              have hb23 : (q.take (0)).length + ([(x0, x1)] ++ q.drop (0)).length ≤ 140737488355328 := by simp only [List.length_append, List.length_cons, List.length_nil, List.length_drop, List.length_take]; omega
              go_region_held_law (fun w' => w'.cell? ⟨b, o + i * 2, none⟩ = some (.string x0) ∧ w'.cell? ⟨b, o + i * 2 + 1, none⟩ = some (.string x1))
                (first
                  | exact ⟨g1, g2⟩
                  | exact ⟨cell_over g1 bw0, cell_over g2 bw0⟩
                  | exact ⟨cell_over g1 bw1, cell_over g2 bw1⟩
                  | exact ⟨cell_over g1 bw2, cell_over g2 bw2⟩)
                (first
                  | (refine step_append_sl _ (by rfl) _ _ 22 (by rfl) wr.heap.size 38 i0 _ 32 Try.underlying22 hi hz0 hz1 hz2 rfl (by decide) encP_length encP_each (.slice (some ⟨wr.heap.size, 0, none⟩) 1 1) [(x0, x1)] (by rfl) hO0 _ (.slice (some ⟨g, 0, none⟩) q.length 0) (q.drop (0)) (by rfl) (hsrc _) hb20 hb21 (by simp) ?_; intro v1 w1 hown1 hg1; have bw1 : Below wr.heap.size wr w1 := bw0.trans (OwnP.below hO0 (by simp) hg1))
                  | (refine step_append_full _ (by rfl) _ _ 22 (by rfl) 38 i0 _ 32 Try.underlying22 hi hz0 hz1 hz2 rfl (by decide) encP_length encP_each _ _ (q.take (0)) (by rfl) ⟨some ⟨g, 0, none⟩, by simp⟩ (Sl.upto (hsl.over bw1) 0 (Nat.zero_le _)) wr.heap.size v1 _ (by rfl) hown1 (by simp) hb22 hb23 ?_; intro v2 w2 hown2 hg2; have bw2 : Below wr.heap.size wr w2 := bw1.trans (Below.mono ((Below.refl _ w1).grown hg2 (Nat.le_refl _) (fun k e => by cases e)) bw1.size)))
              have hown3 := Own.lower hown2 (base' := w.heap.size) (Nat.le_trans hbz bw1.size)
              have hb3 := hb.trans (bw2.mono hbz)
              go_wp2_with fail
              go_roundw
              case rel => exact ⟨i + 1, _, by omega, by go_num, Lib.hid ⟨(insert_perm q (x0, x1) (0)).trans (by rw [HT.out]; exact List.Perm.append_right _ HQ.out.1), insert_sorted HQ.out.2 HHI.out HLO.out⟩, hown3, hb3⟩
              case measure => simp [intOf]; omega
            · go_wp2_with fail
              have HLO : Hid (∀ y ∈ q.take (0), ¬ ltN (x0, x1) y) := Lib.hid (fun y hy => by simp at hy)
              have HHI : Hid (∀ y ∈ q.drop (0), ltN (x0, x1) y) := Lib.hid (HK.out)
              have bw0 : Below wr.heap.size wr ((wr.drewN nq).alloc (.cells #[.string x0, .string x1] 38)).drew := ((below_drewN (Below.refl _ wr) nq).alloc (Nat.le_refl _) _).drew
              have hO0 : OwnP ((wr.drewN nq).alloc (.cells #[.string x0, .string x1] 38)).drew wr.heap.size (.slice (some ⟨wr.heap.size, 0, none⟩) 1 1) [(x0, x1)] := own_parts1 (wr.drewN nq) (x0, x1)
              have hb20 : ([(x0, x1)].length + (q.drop (0)).length) * 32 ≤ 140737488355328 := by simp only [List.length_cons, List.length_nil, List.length_drop]; omega
              have hb21 : [(x0, x1)].length + (q.drop (0)).length ≤ 140737488355328 := by simp only [List.length_cons, List.length_nil, List.length_drop]; omega
              have hb22 : ((q.take (0)).length + ([(x0, x1)] ++ q.drop (0)).length) * 32 ≤ 140737488355328 := by simp only [List.length_append, List.length_cons, List.length_nil, List.length_drop, List.length_take]; omega
              have hb23 : (q.take (0)).length + ([(x0, x1)] ++ q.drop (0)).length ≤ 140737488355328 := by simp only [List.length_append, List.length_cons, List.length_nil, List.length_drop, List.length_take]; omega
              go_region_held_law (fun w' => w'.cell? ⟨b, o + i * 2, none⟩ = some (.string x0) ∧ w'.cell? ⟨b, o + i * 2 + 1, none⟩ = some (.string x1))
                (first
                  | exact ⟨g1, g2⟩
                  | exact ⟨cell_over g1 bw0, cell_over g2 bw0⟩
                  | exact ⟨cell_over g1 bw1, cell_over g2 bw1⟩
                  | exact ⟨cell_over g1 bw2, cell_over g2 bw2⟩)
                (first
                  | (refine step_append_sl _ (by rfl) _ _ 22 (by rfl) wr.heap.size 38 i0 _ 32 Try.underlying22 hi hz0 hz1 hz2 rfl (by decide) encP_length encP_each (.slice (some ⟨wr.heap.size, 0, none⟩) 1 1) [(x0, x1)] (by rfl) hO0 _ _ (q.drop (0)) (by rfl) (by rw [List.drop_zero]; exact hsl.over bw0) hb20 hb21 (by simp) ?_; intro v1 w1 hown1 hg1; have bw1 : Below wr.heap.size wr w1 := bw0.trans (OwnP.below hO0 (by simp) hg1))
                  | (refine step_append_full _ (by rfl) _ _ 22 (by rfl) 38 i0 _ 32 Try.underlying22 hi hz0 hz1 hz2 rfl (by decide) encP_length encP_each _ _ (q.take (0)) (by rfl) ⟨some ⟨g, 0, none⟩, by simp⟩ (Sl.upto (hsl.over bw1) 0 (Nat.zero_le _)) wr.heap.size v1 _ (by rfl) hown1 (by simp) hb22 hb23 ?_; intro v2 w2 hown2 hg2; have bw2 : Below wr.heap.size wr w2 := bw1.trans (Below.mono ((Below.refl _ w1).grown hg2 (Nat.le_refl _) (fun k e => by cases e)) bw1.size)))
              have hown3 := Own.lower hown2 (base' := w.heap.size) (Nat.le_trans hbz bw1.size)
              have hb3 := hb.trans (bw2.mono hbz)
              go_wp2_with fail
              go_roundw
              case rel => exact ⟨i + 1, _, by omega, by go_num, Lib.hid ⟨(insert_perm q (x0, x1) (0)).trans (by rw [HT.out]; exact List.Perm.append_right _ HQ.out.1), insert_sorted HQ.out.2 HHI.out HLO.out⟩, hown3, hb3⟩
              case measure => simp [intOf]; omega
          · obtain ⟨k', rfl⟩ : ∃ k', k = k' + 1 := ⟨k - 1, by omega⟩
            obtain ⟨A3, c3, e3, _, _, HP3⟩ := hsl.part
            obtain ⟨b3, o3, e4, hb3, y1, y2⟩ := HP3 k' (by omega)
            subst e4
            cases e3
            rw [Nat.zero_add] at y1
            have hkl : k' < q.length := by omega
            have hw1 : IntKind.i64.wrap (k' : Int) = (k' : Int) := IntWalk.i64_in _ (by omega)
            have hkI : (k' : Int) < q.length := by omega
            by_cases hless : ltN (x0, x1) q[k']
            · have hbl := gtr_true hless
              have HK2 : Hid (∀ y ∈ q.drop k', ltN (x0, x1) y) := Lib.hid (fun y hy => by
                rw [List.drop_eq_getElem_cons hkl] at hy
                rcases List.mem_cons.1 hy with rfl | hy
                · exact hless
                · exact HK.out y hy)
              obtain ⟨gg, hgg⟩ : ∃ gg, gg = (!Op.bytesLess q[k'].1.toList x0.toList && !(q[k'].1.toList == x0.toList)) := ⟨_, rfl⟩
              rw [← hgg] at hbl
              go_wp2_with fail
              go_quiet (fail)
              rw [← hgg, hbl]
              go_wp2_with fail
              go_roundw
              case rel => exact ⟨k', by omega, rfl, HK2, g1, g2, hown.drewN _, below_drewN hb _⟩
              case measure => first | (simp [intOf]; done) | (simp [intOf]; omega)
            · have hbl := gtr_false hless
              have hK0 : (0 : Int) ≤ (k' : Int) + 1 := by omega
              have hK1 : (k' : Int) + 1 ≤ q.length := by omega
              have hK2 : (k' : Int) + 1 ≤ c2 := by omega
              have hK3 : ((k' : Int) + 1).toNat = k' + 1 := by omega
              obtain ⟨gg, hgg⟩ : ∃ gg, gg = (!Op.bytesLess q[k'].1.toList x0.toList && !(q[k'].1.toList == x0.toList)) := ⟨_, rfl⟩
              rw [← hgg] at hbl
              go_wp2_with fail
              go_quiet (fail)
              rw [← hgg, hbl]
              by_cases hcap : c2 = k' + 1
              · have hsrc : ∀ W : World, Sl encP 2 W W.heap.size (.slice (some ⟨g, 0, none⟩) (q.length - (k' + 1)) 0) (q.drop (k' + 1)) := fun W => by
                  rw [List.drop_of_length_le (l := q) (i := k' + 1) (by omega)]
                  exact Sl.empty (by omega) (by unfold maxLen; omega)
                go_wp2_with fail
                have HLO : Hid (∀ y ∈ q.take (k' + 1), ¬ ltN (x0, x1) y) := Lib.hid (insert_lo HQ.out.2 hkl hless)
                have HHI : Hid (∀ y ∈ q.drop (k' + 1), ltN (x0, x1) y) := Lib.hid (HK.out)
                have bw0 : Below wr.heap.size wr ((wr.drewN nq).alloc (.cells #[.string x0, .string x1] 38)).drew := ((below_drewN (Below.refl _ wr) nq).alloc (Nat.le_refl _) _).drew
                have hO0 : OwnP ((wr.drewN nq).alloc (.cells #[.string x0, .string x1] 38)).drew wr.heap.size (.slice (some ⟨wr.heap.size, 0, none⟩) 1 1) [(x0, x1)] := own_parts1 (wr.drewN nq) (x0, x1)
                have hb20 : ([(x0, x1)].length + (q.drop (k' + 1)).length) * 32 ≤ 140737488355328 := by simp only [List.length_cons, List.length_nil, List.length_drop]; omega
                have hb21 : [(x0, x1)].length + (q.drop (k' + 1)).length ≤ 140737488355328 := by simp only [List.length_cons, List.length_nil, List.length_drop]; omega
                have hb22 : ((q.take (k' + 1)).length + ([(x0, x1)] ++ q.drop (k' + 1)).length) * 32 ≤ 140737488355328 := by simp only [List.length_append, List.length_cons, List.length_nil, List.length_drop, List.length_take]; omega
                have hb23 : (q.take (k' + 1)).length + ([(x0, x1)] ++ q.drop (k' + 1)).length ≤ 140737488355328 := by simp only [List.length_append, List.length_cons, List.length_nil, List.length_drop, List.length_take]; omega
                go_region_held_law (fun w' => w'.cell? ⟨b, o + i * 2, none⟩ = some (.string x0) ∧ w'.cell? ⟨b, o + i * 2 + 1, none⟩ = some (.string x1))
                  (first
                    | exact ⟨g1, g2⟩
                    | exact ⟨cell_over g1 bw0, cell_over g2 bw0⟩
                    | exact ⟨cell_over g1 bw1, cell_over g2 bw1⟩
                    | exact ⟨cell_over g1 bw2, cell_over g2 bw2⟩)
                  (first
                    | (refine step_append_sl _ (by rfl) _ _ 22 (by rfl) wr.heap.size 38 i0 _ 32 Try.underlying22 hi hz0 hz1 hz2 rfl (by decide) encP_length encP_each (.slice (some ⟨wr.heap.size, 0, none⟩) 1 1) [(x0, x1)] (by rfl) hO0 _ (.slice (some ⟨g, 0, none⟩) (q.length - (k' + 1)) 0) (q.drop (k' + 1)) (by rfl) (hsrc _) hb20 hb21 (by simp) ?_; intro v1 w1 hown1 hg1; have bw1 : Below wr.heap.size wr w1 := bw0.trans (OwnP.below hO0 (by simp) hg1))
                    | (refine step_append_full _ (by rfl) _ _ 22 (by rfl) 38 i0 _ 32 Try.underlying22 hi hz0 hz1 hz2 rfl (by decide) encP_length encP_each _ _ (q.take (k' + 1)) (by rfl) ⟨some ⟨g, 0, none⟩, by rw [List.length_take, Nat.min_eq_left (by omega)]⟩ (Sl.upto (hsl.over bw1) (k' + 1) (by omega)) wr.heap.size v1 _ (by rfl) hown1 (by simp) hb22 hb23 ?_; intro v2 w2 hown2 hg2; have bw2 : Below wr.heap.size wr w2 := bw1.trans (Below.mono ((Below.refl _ w1).grown hg2 (Nat.le_refl _) (fun k e => by cases e)) bw1.size)))
                have hown3 := Own.lower hown2 (base' := w.heap.size) (Nat.le_trans hbz bw1.size)
                have hb3 := hb.trans (bw2.mono hbz)
                go_wp2_with fail
                go_roundw
                case rel => exact ⟨i + 1, _, by omega, by go_num, Lib.hid ⟨(insert_perm q (x0, x1) (k' + 1)).trans (by rw [HT.out]; exact List.Perm.append_right _ HQ.out.1), insert_sorted HQ.out.2 HHI.out HLO.out⟩, hown3, hb3⟩
                case measure => simp [intOf]; omega
              · go_wp2_with fail
                have HLO : Hid (∀ y ∈ q.take (k' + 1), ¬ ltN (x0, x1) y) := Lib.hid (insert_lo HQ.out.2 hkl hless)
                have HHI : Hid (∀ y ∈ q.drop (k' + 1), ltN (x0, x1) y) := Lib.hid (HK.out)
                have bw0 : Below wr.heap.size wr ((wr.drewN nq).alloc (.cells #[.string x0, .string x1] 38)).drew := ((below_drewN (Below.refl _ wr) nq).alloc (Nat.le_refl _) _).drew
                have hO0 : OwnP ((wr.drewN nq).alloc (.cells #[.string x0, .string x1] 38)).drew wr.heap.size (.slice (some ⟨wr.heap.size, 0, none⟩) 1 1) [(x0, x1)] := own_parts1 (wr.drewN nq) (x0, x1)
                have hb20 : ([(x0, x1)].length + (q.drop (k' + 1)).length) * 32 ≤ 140737488355328 := by simp only [List.length_cons, List.length_nil, List.length_drop]; omega
                have hb21 : [(x0, x1)].length + (q.drop (k' + 1)).length ≤ 140737488355328 := by simp only [List.length_cons, List.length_nil, List.length_drop]; omega
                have hb22 : ((q.take (k' + 1)).length + ([(x0, x1)] ++ q.drop (k' + 1)).length) * 32 ≤ 140737488355328 := by simp only [List.length_append, List.length_cons, List.length_nil, List.length_drop, List.length_take]; omega
                have hb23 : (q.take (k' + 1)).length + ([(x0, x1)] ++ q.drop (k' + 1)).length ≤ 140737488355328 := by simp only [List.length_append, List.length_cons, List.length_nil, List.length_drop, List.length_take]; omega
                go_region_held_law (fun w' => w'.cell? ⟨b, o + i * 2, none⟩ = some (.string x0) ∧ w'.cell? ⟨b, o + i * 2 + 1, none⟩ = some (.string x1))
                  (first
                    | exact ⟨g1, g2⟩
                    | exact ⟨cell_over g1 bw0, cell_over g2 bw0⟩
                    | exact ⟨cell_over g1 bw1, cell_over g2 bw1⟩
                    | exact ⟨cell_over g1 bw2, cell_over g2 bw2⟩)
                  (first
                    | (refine step_append_sl _ (by rfl) _ _ 22 (by rfl) wr.heap.size 38 i0 _ 32 Try.underlying22 hi hz0 hz1 hz2 rfl (by decide) encP_length encP_each (.slice (some ⟨wr.heap.size, 0, none⟩) 1 1) [(x0, x1)] (by rfl) hO0 _ (.slice (some ⟨g, (k' + 1) * 2, none⟩) (q.length - (k' + 1)) (c2 - (k' + 1))) (q.drop (k' + 1)) (by rfl) (by have h := Sl.from encP_length (hsl.over bw0) (k' + 1) hk; rw [Nat.zero_add] at h; exact h) hb20 hb21 (by simp) ?_; intro v1 w1 hown1 hg1; have bw1 : Below wr.heap.size wr w1 := bw0.trans (OwnP.below hO0 (by simp) hg1))
                    | (refine step_append_full _ (by rfl) _ _ 22 (by rfl) 38 i0 _ 32 Try.underlying22 hi hz0 hz1 hz2 rfl (by decide) encP_length encP_each _ _ (q.take (k' + 1)) (by rfl) ⟨some ⟨g, 0, none⟩, by rw [List.length_take, Nat.min_eq_left (by omega)]⟩ (Sl.upto (hsl.over bw1) (k' + 1) (by omega)) wr.heap.size v1 _ (by rfl) hown1 (by simp) hb22 hb23 ?_; intro v2 w2 hown2 hg2; have bw2 : Below wr.heap.size wr w2 := bw1.trans (Below.mono ((Below.refl _ w1).grown hg2 (Nat.le_refl _) (fun k e => by cases e)) bw1.size)))
                have hown3 := Own.lower hown2 (base' := w.heap.size) (Nat.le_trans hbz bw1.size)
                have hb3 := hb.trans (bw2.mono hbz)
                go_wp2_with fail
                go_roundw
                case rel => exact ⟨i + 1, _, by omega, by go_num, Lib.hid ⟨(insert_perm q (x0, x1) (k' + 1)).trans (by rw [HT.out]; exact List.Perm.append_right _ HQ.out.1), insert_sorted HQ.out.2 HHI.out HLO.out⟩, hown3, hb3⟩
                case measure => simp [intOf]; omega
    · have HE : Hid (q.Perm l ∧ SortedP q) := Lib.hid (by have := HQ.out; rwa [List.take_of_length_le (by omega)] at this)
      obtain ⟨A2, c2, rfl, _, _⟩ := Own.shape hown
      go_wp2_with fail
      go_ret
      exact ⟨_, q, rfl, HE.out.1, HE.out.2, hown, hb⟩
end Go.Proofs.Ytdnaifkcogadkaa
