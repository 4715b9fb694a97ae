/- Walk: the law on strengths. -/
import Derived.Test.YtknnjnginmkblaaDoorOrders
namespace Go.Proofs.YtknnjnginmkblaaDoor
open Go.RowKit

def ObjO (st : Int) (num ign up : Bool) : Obj := .cells #[.int .i64 st, .bool num, .bool ign, .bool up] 23
theorem objO_cells {w : World} {g : Nat} {st : Int} {num ign up : Bool} (h : w.heap[g]? = some (ObjO st num ign up)) :
    w.cell? ⟨g, 0, none⟩ = some (.int .i64 st) ∧ w.cell? ⟨g, 1, none⟩ = some (.bool num) ∧ w.cell? ⟨g, 2, none⟩ = some (.bool ign) ∧ w.cell? ⟨g, 3, none⟩ = some (.bool up) ∧ w.frozen? ⟨g, 0, none⟩ = false :=
  ⟨cell_of_row w g 0 _ 23 _ h, cell_of_row w g 1 _ 23 _ h, cell_of_row w g 2 _ 23 _ h, cell_of_row w g 3 _ 23 _ h, blk_free h 0⟩
theorem objO_set {w : World} {g : Nat} {st : Int} {num ign up : Bool} (h : w.heap[g]? = some (ObjO st num ign up)) (k : Int) : (w.setCell ⟨g, 0, none⟩ (.int .i64 k)).heap[g]? = some (ObjO k num ign up) :=
  heap_setCell_same w g 0 _ 23 (.int .i64 k) h
theorem objO_over {w w' : World} {g : Nat} {st : Int} {num ign up : Bool} (h : w.heap[g]? = some (ObjO st num ign up)) (hb : Below w.heap.size w w') : w'.heap[g]? = some (ObjO st num ign up) := below_block hb h (heap_lt h)
theorem objO_new (w : World) (st : Int) (num ign up : Bool) : (w.alloc (.cells #[.int .i64 st, .bool num, .bool ign, .bool up] 23)).heap[w.heap.size]? = some (ObjO st num ign up) := heap_alloc_new w _
theorem errC_st {k k' : Int} {n i u : Bool} {l : List ByteArray} (hk : 1 ≤ k' ∧ k' ≤ 4) (h : errC ⟨k, n, i, u⟩ l = 0) : errC ⟨k', n, i, u⟩ l = 0 := by
  obtain ⟨hst, _⟩ := errC_ok h
  have h1 : chkO k = 0 := if_neg (by simp only at hst; omega)
  have h2 : chkO k' = 0 := if_neg (by omega)
  unfold errC at h ⊢
  simp only at h ⊢
  rw [if_pos h1] at h
  rw [if_pos h2]
  exact h
theorem cmpR_next {k : Nat} {n i u : Bool} {a b : ByteArray} (hk : 1 ≤ k ∧ k < 4) (h : errC ⟨(k : Int), n, i, u⟩ [a, b] = 0) (h0 : cmpR ⟨(k : Int), n, i, u⟩ a b ≠ 0) : cmpR ⟨((k + 1 : Nat) : Int), n, i, u⟩ a b = cmpR ⟨(k : Int), n, i, u⟩ a b := by
  have h' : errC ⟨((k + 1 : Nat) : Int), n, i, u⟩ [a, b] = 0 := errC_st ⟨by omega, by omega⟩ h
  unfold cmpR at h0 ⊢
  rw [if_pos h] at h0 ⊢
  rw [if_pos h']
  have e1 : (⟨((k + 1 : Nat) : Int), n, i, u⟩ : Opt).strength.toNat = k + 1 := by simp only; omega
  have e2 : (⟨(k : Int), n, i, u⟩ : Opt).strength.toNat = k := by simp only; omega
  rw [e2] at h0 ⊢
  rw [e1, elS_st ((k + 1 : Nat) : Int) k n i u a, elS_st ((k + 1 : Nat) : Int) k n i u b]
  exact cmpL_next hk.2 h0

set_option maxRecDepth 100000 in
set_option maxHeartbeats 8000000 in
theorem strengths_any (A B : ByteArray) (o : Opt) (w : World) :
    Calls Tryd.prog 6 #[.string A, .string B, optV o] w fun e w' => e = .returned (.bool true) ∧ Below w.heap.size w w' := by
  obtain ⟨a, ha⟩ : ∃ a, a = cutS A := ⟨_, rfl⟩
  obtain ⟨b, hb⟩ : ∃ b, b = cutS B := ⟨_, rfl⟩
  have HA : Hid (∀ w : World, Calls Tryd.prog 14 #[.string A] w fun e w' => e = .returned (.string a) ∧ w = w') := Lib.hid (fun w => by rw [ha]; exact cut_lib A w)
  have HB : Hid (∀ w : World, Calls Tryd.prog 14 #[.string B] w fun e w' => e = .returned (.string b) ∧ w = w') := Lib.hid (fun w => by rw [hb]; exact cut_lib B w)
  have hsz : ∀ s ∈ [a, b], s.size ≤ 4096 := by
    intro s hs
    have h1 := cutS_size A
    have h2 := cutS_size B
    rw [← ha] at h1; rw [← hb] at h2
    simp only [List.mem_cons, List.mem_nil_iff, or_false] at hs
    rcases hs with rfl | rfl <;> omega
  obtain ⟨st, num, ign, up⟩ := o
  have CF : Hid (∀ (v : Value) (w : World), Sl encS 1 w w.heap.size v [a, b] → Calls Tryd.prog 17 #[.agg #[.int .i64 1, .bool num, .bool ign, .bool up], v] w fun e w' => e = .returned (.int .i64 (errC ⟨1, num, ign, up⟩ [a, b])) ∧ Below w.heap.size w w') := Lib.hid (fun v w h => fault_lib ⟨1, num, ign, up⟩ v [a, b] w h hsz)
  have CAB : Hid (∀ (k : Int) (w : World), Calls Tryd.prog 20 #[.string a, .string b, .agg #[.int .i64 k, .bool num, .bool ign, .bool up]] w fun e w' => e = .returned (.tuple #[.int .i64 (cmpR ⟨k, num, ign, up⟩ a b), .int .i64 (errC ⟨k, num, ign, up⟩ [a, b])]) ∧ Below w.heap.size w w') := Lib.hid (fun k w => compare_lib a b ⟨k, num, ign, up⟩ w)
  have CKN := Lib.hid known_lib
  obtain ⟨E, hE⟩ : ∃ E, E = errC ⟨1, num, ign, up⟩ [a, b] := ⟨_, rfl⟩
  have HE := Lib.hid hE
  rw [← hE] at CF
  clear ha hb hsz hE
  show Calls Tryd.prog 6 #[.string A, .string B, .agg #[.int .i64 st, .bool num, .bool ign, .bool up]] w _
  go_enter Tryd.func6, Tryd.ntmps6
  go_wp2_with fail
  refine (HA.out _).mono ?_
  rintro e w1 ⟨rfl, rfl⟩
  go_wp2_with fail
  refine (HB.out _).mono ?_
  rintro e w1 ⟨rfl, rfl⟩
  go_upto_region 3 with fail
  have b1 : Below w.heap.size w (w.alloc (.cells #[.int .i64 1, .bool num, .bool ign, .bool up] 23)) := (Below.refl w.heap.size w).alloc (Nat.le_refl _) _
  have B1 := objO_new w 1 num ign up
  have z1 : w.heap.size < (w.alloc (.cells #[.int .i64 1, .bool num, .bool ign, .bool up] 23)).heap.size := by simp
  obtain ⟨w1, hw1⟩ : ∃ w1, w1 = w.alloc (.cells #[.int .i64 1, .bool num, .bool ign, .bool up] 23) := ⟨_, rfl⟩
  rw [← hw1] at b1 B1 z1 ⊢
  clear hw1 HA HB
  go_wp2_with fail
  refine (CKN.out _).mono ?_
  rintro e w3 ⟨rfl, hb3⟩
  have B3 := objO_over B1 hb3
  have b3 := b1.trans (hb3.mono b1.size)
  clear b1 B1 hb3 z1
  obtain ⟨c0, c1, c2, c3, _⟩ := objO_cells B3
  go_wp2_with fail
  refine (CF.out _ _ ?_).mono ?_
  · have := Sl.fresh (enc := encS) (fun _ => rfl) w3 9 [a, b] (by simp [maxLen])
    rw [show (w3.alloc (Obj.cells #[Value.string a, Value.string b] 9)).heap.size = w3.heap.size + 1 from by simp]
    exact this
  rintro e w4 ⟨rfl, hb4⟩
  have b34 : Below w3.heap.size w3 (w3.alloc (Obj.cells #[Value.string a, Value.string b] 9)) := (Below.refl _ _).alloc (Nat.le_refl _) _
  have b4' := b34.trans (hb4.mono b34.size)
  have B4 := objO_over B3 b4'
  have b4 := b3.trans (b4'.mono b3.size)
  clear b34 hb4 b4' b3 CF c0 c1 c2 c3 B3
  by_cases h0 : E = 0
  · have HE0 : Hid (errC ⟨1, num, ign, up⟩ [a, b] = 0) := Lib.hid (HE.out.symm.trans h0)
    clear HE
    subst h0
    go_wp2_with fail
    go_loopw [7, 8] (fun lv kv wr => ∃ (k : Nat) (last s0 : Int), 1 ≤ k ∧ k ≤ 5 ∧ lv = .int .i64 last ∧ kv = .int .i64 k ∧ Hid (k = 1 ∧ last = 0 ∨ ∃ j : Nat, 1 ≤ j ∧ j < 5 ∧ k = j + 1 ∧ last = cmpR ⟨(j : Int), num, ign, up⟩ a b) ∧ wr.heap[w.heap.size]? = some (ObjO s0 num ign up) ∧ Below w.heap.size w wr) (fun _ kv _ => 5 - (intOf kv).toNat)
    case atStart => exact ⟨1, 0, 1, by omega, by omega, rfl, rfl, Lib.hid (.inl ⟨rfl, rfl⟩), B4, b4⟩
    case round =>
      obtain ⟨k, last, s0, hk1, hk5, rfl, rfl, HK, hB, hb⟩ := hrel
      clear B4 b4
      by_cases hlt : k ≤ 4
      · have hlt' : (k : Int) ≤ 4 := by omega
        obtain ⟨c0, c1, c2, c3, f0⟩ := objO_cells hB
        have HB := Lib.hid hB
        clear hB
        go_upto_region 10 with fail
        have B5 := objO_set HB.out (k : Int)
        have b5 : Below w.heap.size w (wr.setCell ⟨w.heap.size, 0, none⟩ (.int .i64 (k : Int))) := hb.setCell (Nat.le_refl _) _
        obtain ⟨w5, hw5⟩ : ∃ w5, w5 = wr.setCell ⟨w.heap.size, 0, none⟩ (.int .i64 (k : Int)) := ⟨_, rfl⟩
        rw [← hw5] at B5 b5 ⊢
        clear hw5 c0 c1 c2 c3 f0 HB hb
        obtain ⟨c0, c1, c2, c3, _⟩ := objO_cells B5
        have herr : errC ⟨(k : Int), num, ign, up⟩ [a, b] = 0 := errC_st ⟨by omega, by omega⟩ HE0.out
        have CC := Lib.hid (CAB.out (k : Int) w5)
        rw [herr] at CC
        have hst : last ≠ 0 → cmpR ⟨(k : Int), num, ign, up⟩ a b = last := by
          intro h
          rcases HK.out with ⟨_, h2⟩ | ⟨j, j1, j2, rfl, h2⟩
          · exact absurd h2 h
          · rw [h2] at h ⊢
            exact cmpR_next ⟨j1, by omega⟩ (errC_st ⟨by omega, by omega⟩ HE0.out) h
        have HK2 : Hid (k + 1 = 1 ∧ cmpR ⟨(k : Int), num, ign, up⟩ a b = 0 ∨ ∃ j : Nat, 1 ≤ j ∧ j < 5 ∧ k + 1 = j + 1 ∧ cmpR ⟨(k : Int), num, ign, up⟩ a b = cmpR ⟨(j : Int), num, ign, up⟩ a b) := Lib.hid (.inr ⟨k, hk1, by omega, rfl, rfl⟩)
        obtain ⟨z, hz⟩ : ∃ z, z = cmpR ⟨(k : Int), num, ign, up⟩ a b := ⟨_, rfl⟩
        rw [← hz] at CC hst HK2
        clear hz herr HK
        have ek : IntKind.i64.wrap ((k : Int) + 1) = (k : Int) + 1 := IntWalk.i64_in _ (by omega)
        go_wp2_with fail
        refine CC.out.mono ?_
        rintro e w6 ⟨rfl, hb6⟩
        have B6 := objO_over B5 hb6
        have b6 := b5.trans (hb6.mono b5.size)
        clear B5 b5 hb6 CC c0 c1 c2 c3
        by_cases hl : last = 0
        · subst hl
          clear hst
          go_wp2_with fail
          go_roundw
          case rel => exact ⟨k + 1, z, (k : Int), by omega, by omega, rfl, by go_num, HK2, B6, b6⟩
          case measure => simp [intOf]; omega
        · have hzl := hst hl
          have d1 : (last != 0) = true := by simpa using hl
          subst hzl
          clear hst hl
          go_wp2_with fail
          go_roundw
          case rel => exact ⟨k + 1, z, (k : Int), by omega, by omega, rfl, by go_num, HK2, B6, b6⟩
          case measure => simp [intOf]; omega
      · have hlt' : ¬ (k : Int) ≤ 4 := by omega
        go_wp2_with fail
        go_ret
        exact ⟨rfl, hb⟩
  · have d0 : (E != 0) = true := by simpa using h0
    clear CAB HE h0
    go_wp2_with fail
    refine (CKN.out _).mono ?_
    rintro e w5 ⟨rfl, hb5⟩
    have b5 := b4.trans (hb5.mono b4.size)
    clear hb5 b4
    go_wp2_with fail
    go_ret
    exact ⟨rfl, b5⟩
end Go.Proofs.YtknnjnginmkblaaDoor
