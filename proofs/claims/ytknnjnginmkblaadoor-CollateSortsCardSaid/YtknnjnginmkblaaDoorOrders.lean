/- Walk: the law on the order. -/
import Derived.Test.YtknnjnginmkblaaDoorPl5
import Derived.BigQuiet
namespace Go.Proofs.YtknnjnginmkblaaDoor
open Go.RowKit

theorem quiet_left {P : Program} {f : FuncId} {args : Array Value} {w : World} {n : Nat} {v : Value}
    (h : Calls P f args (w.drewN n) fun e w' => e = .returned v ∧ w.drewN n = w') : Calls P f args (w.drewN n) fun e w'' => e = .returned v ∧ ∃ m, w'' = w.drewN m :=
  h.mono fun _ _ ⟨he, hw⟩ => ⟨he, n, hw.symm⟩
/-- Options in a block. -/
def BoxG (g : Nat) (st : Int) (num ign up : Bool) (w : World) : Prop :=
  w.cell? ⟨g, 0, none⟩ = some (.int .i64 st) ∧ w.cell? ⟨g, 1, none⟩ = some (.bool num) ∧ w.cell? ⟨g, 2, none⟩ = some (.bool ign) ∧ w.cell? ⟨g, 3, none⟩ = some (.bool up)
theorem BoxG.over {g : Nat} {w w' : World} {st : Int} {num ign up : Bool} (h : BoxG g st num ign up w) (hb : Below w.heap.size w w') : BoxG g st num ign up w' :=
  ⟨cell_over h.1 hb, cell_over h.2.1 hb, cell_over h.2.2.1 hb, cell_over h.2.2.2 hb⟩
theorem BoxG.new (w : World) (st : Int) (num ign up : Bool) : BoxG w.heap.size st num ign up (w.alloc (.cells #[.int .i64 st, .bool num, .bool ign, .bool up] 23)) := by
  have hc := cells_new w [.int .i64 st, .bool num, .bool ign, .bool up] 23
  exact ⟨hc 0 _ rfl, hc 1 _ rfl, hc 2 _ rfl, hc 3 _ rfl⟩
theorem eq_toList {a b : ByteArray} : (a.toList == b.toList) = decide (a = b) := by
  by_cases h : a = b
  · subst h; simp
  · rw [lists_ne h]; simp [h]

set_option maxRecDepth 100000 in
set_option maxHeartbeats 8000000 in
theorem orders_any (A B C : ByteArray) (o : Opt) (w : World) :
    Calls Tryd.prog 5 #[.agg #[.string A, .string B, .string C], optV o] w fun e w' => e = .returned (.bool true) ∧ Below w.heap.size w w' := by
  obtain ⟨a, ha⟩ : ∃ a, a = cutS A := ⟨_, rfl⟩
  obtain ⟨b, hb⟩ : ∃ b, b = cutS B := ⟨_, rfl⟩
  obtain ⟨c, hc⟩ : ∃ c, c = cutS C := ⟨_, rfl⟩
  have HA : Hid (∀ w : World, Calls Tryd.prog 14 #[.string A] w fun e w' => e = .returned (.string a) ∧ w = w') := Lib.hid (fun w => by rw [ha]; exact cut_lib A w)
  have HB : Hid (∀ w : World, Calls Tryd.prog 14 #[.string B] w fun e w' => e = .returned (.string b) ∧ w = w') := Lib.hid (fun w => by rw [hb]; exact cut_lib B w)
  have HC : Hid (∀ w : World, Calls Tryd.prog 14 #[.string C] w fun e w' => e = .returned (.string c) ∧ w = w') := Lib.hid (fun w => by rw [hc]; exact cut_lib C w)
  have hsz : ∀ s ∈ [a, b, c], s.size ≤ 4096 := by
    intro s hs
    have h1 := cutS_size A
    have h2 := cutS_size B
    have h3 := cutS_size C
    rw [← ha] at h1; rw [← hb] at h2; rw [← hc] at h3
    simp only [List.mem_cons, List.mem_nil_iff, or_false] at hs
    rcases hs with rfl | rfl | rfl <;> omega
  have CF : Hid (∀ (v : Value) (w : World), Sl encS 1 w w.heap.size v [a, b, c] → Calls Tryd.prog 17 #[optV o, v] w fun e w' => e = .returned (.int .i64 (errC o [a, b, c])) ∧ Below w.heap.size w w') := Lib.hid (fun v w h => fault_lib o v [a, b, c] w h hsz)
  have CAB := Lib.hid (compare_lib a b o)
  have CBC := Lib.hid (compare_lib b c o)
  have CAC := Lib.hid (compare_lib a c o)
  have CBA := Lib.hid (compare_lib b a o)
  have CKN := Lib.hid known_lib
  obtain ⟨E, hE⟩ : ∃ E, E = errC o [a, b, c] := ⟨_, rfl⟩
  have HE := Lib.hid hE
  rw [← hE] at CF
  clear ha hb hc hsz hE
  obtain ⟨st, num, ign, up⟩ := o
  change Hid (∀ (v : Value) (w : World), Sl encS 1 w w.heap.size v [a, b, c] → Calls Tryd.prog 17 #[.agg #[.int .i64 st, .bool num, .bool ign, .bool up], v] w fun e w' => e = .returned (.int .i64 E) ∧ Below w.heap.size w w') at CF
  show Calls Tryd.prog 5 #[.agg #[.string A, .string B, .string C], .agg #[.int .i64 st, .bool num, .bool ign, .bool up]] w _
  go_enter Tryd.func5, Tryd.ntmps5
  go_wp2_with fail
  go_quiet (first | (go_at_call 14; exact quiet_left (HA.out _)) | (go_at_call 14; exact quiet_left (HB.out _)) | (go_at_call 14; exact quiet_left (HC.out _)))
  go_wp2_with fail
  have z1 : (w.alloc (.cells #[.string A, .string B, .string C] 40)).heap.size = w.heap.size + 1 := by simp
  have b1 : Below w.heap.size w (w.alloc (.cells #[.string A, .string B, .string C] 40)) := (Below.refl _ _).alloc (Nat.le_refl _) _
  obtain ⟨w1, hw1⟩ : ∃ w1, w1 = w.alloc (.cells #[.string A, .string B, .string C] 40) := ⟨_, rfl⟩
  rw [← hw1] at z1 b1 ⊢
  have b2 : Below w.heap.size w ((w1.alloc (.cells #[.int .i64 st, .bool num, .bool ign, .bool up] 23)).drewN nq) := below_drewN (b1.alloc b1.size _) nq
  have B2 : BoxG w1.heap.size st num ign up ((w1.alloc (.cells #[.int .i64 st, .bool num, .bool ign, .bool up] 23)).drewN nq) := BoxG.new w1 st num ign up
  obtain ⟨w2, hw2⟩ : ∃ w2, w2 = (w1.alloc (.cells #[.int .i64 st, .bool num, .bool ign, .bool up] 23)).drewN nq := ⟨_, rfl⟩
  rw [← hw2] at b2 B2 ⊢
  rw [z1] at B2
  clear hw1 hw2 b1 z1
  refine (CKN.out _).mono ?_
  rintro e w3 ⟨rfl, hb3⟩
  obtain ⟨c0, c1, c2, c3⟩ := B2.over hb3
  have b3 := b2.trans (hb3.mono b2.size)
  clear b2 B2 hb3
  go_wp2_with fail
  refine (CF.out _ _ ?_).mono ?_
  · have := Sl.fresh (enc := encS) (fun _ => rfl) w3 9 [a, b, c] (by simp [maxLen])
    rw [show (w3.alloc (Obj.cells #[Value.string a, Value.string b, Value.string c] 9)).heap.size = w3.heap.size + 1 from by simp]
    exact this
  rintro e w4 ⟨rfl, hb4⟩
  have b34 : Below w3.heap.size w3 (w3.alloc (Obj.cells #[Value.string a, Value.string b, Value.string c] 9)) := (Below.refl _ _).alloc (Nat.le_refl _) _
  have b4' := b34.trans (hb4.mono b34.size)
  have c0 := cell_over c0 b4'
  have c1 := cell_over c1 b4'
  have c2 := cell_over c2 b4'
  have c3 := cell_over c3 b4'
  have b4 := b3.trans (b4'.mono b3.size)
  clear b34 hb4 b4' b3 CF
  by_cases h0 : E = 0
  · have hE0 : errC ⟨st, num, ign, up⟩ [a, b, c] = 0 := HE.out.symm.trans h0
    have L := cmp_laws hE0
    rw [errC_sub hE0 (by simp)] at CAB CBC CAC CBA
    obtain ⟨hback, hfull, rx, ry, _, hdown, hup⟩ := L
    obtain ⟨x, hx⟩ : ∃ x, x = cmpR ⟨st, num, ign, up⟩ a b := ⟨_, rfl⟩
    obtain ⟨y, hy⟩ : ∃ x, x = cmpR ⟨st, num, ign, up⟩ b c := ⟨_, rfl⟩
    obtain ⟨z, hz⟩ : ∃ x, x = cmpR ⟨st, num, ign, up⟩ a c := ⟨_, rfl⟩
    obtain ⟨k, hk⟩ : ∃ x, x = cmpR ⟨st, num, ign, up⟩ b a := ⟨_, rfl⟩
    rw [← hx] at CAB hback hfull rx hdown hup
    rw [← hy] at CBC ry hdown hup
    rw [← hz] at CAC hdown hup
    rw [← hk] at CBA hback
    change Hid (∀ w : World, Calls Tryd.prog 20 #[.string a, .string b, .agg #[.int .i64 st, .bool num, .bool ign, .bool up]] w fun e w' => e = .returned (.tuple #[.int .i64 x, .int .i64 0]) ∧ Below w.heap.size w w') at CAB
    change Hid (∀ w : World, Calls Tryd.prog 20 #[.string b, .string c, .agg #[.int .i64 st, .bool num, .bool ign, .bool up]] w fun e w' => e = .returned (.tuple #[.int .i64 y, .int .i64 0]) ∧ Below w.heap.size w w') at CBC
    change Hid (∀ w : World, Calls Tryd.prog 20 #[.string a, .string c, .agg #[.int .i64 st, .bool num, .bool ign, .bool up]] w fun e w' => e = .returned (.tuple #[.int .i64 z, .int .i64 0]) ∧ Below w.heap.size w w') at CAC
    change Hid (∀ w : World, Calls Tryd.prog 20 #[.string b, .string a, .agg #[.int .i64 st, .bool num, .bool ign, .bool up]] w fun e w' => e = .returned (.tuple #[.int .i64 k, .int .i64 0]) ∧ Below w.heap.size w w') at CBA
    have hfull' : st = 4 → (x = 0 ↔ a = b) := hfull
    have HL := Lib.hid (And.intro hback (And.intro hfull' (And.intro rx (And.intro ry (And.intro hdown hup)))))
    clear hx hy hz hk hE0 hback hfull hfull' rx ry hdown hup HE
    subst h0
    go_wp2_with fail
    refine (CAB.out _).mono ?_
    rintro e w5 ⟨rfl, hb5⟩
    have c0 := cell_over c0 hb5
    have c1 := cell_over c1 hb5
    have c2 := cell_over c2 hb5
    have c3 := cell_over c3 hb5
    have b5 := b4.trans (hb5.mono b4.size)
    clear hb5 b4 CAB
    go_wp2_with fail
    refine (CBC.out _).mono ?_
    rintro e w6 ⟨rfl, hb6⟩
    have c0 := cell_over c0 hb6
    have c1 := cell_over c1 hb6
    have c2 := cell_over c2 hb6
    have c3 := cell_over c3 hb6
    have b6 := b5.trans (hb6.mono b5.size)
    clear hb6 b5 CBC
    go_wp2_with fail
    refine (CAC.out _).mono ?_
    rintro e w7 ⟨rfl, hb7⟩
    have c0 := cell_over c0 hb7
    have c1 := cell_over c1 hb7
    have c2 := cell_over c2 hb7
    have c3 := cell_over c3 hb7
    have b7 := b6.trans (hb7.mono b6.size)
    clear hb7 b6 CAC
    go_wp2_with fail
    refine (CBA.out _).mono ?_
    rintro e w8 ⟨rfl, hb8⟩
    have c0 := cell_over c0 hb8
    have c1 := cell_over c1 hb8
    have c2 := cell_over c2 hb8
    have c3 := cell_over c3 hb8
    have b8 := b7.trans (hb8.mono b7.size)
    clear hb8 b7 CBA
    obtain ⟨hback, hfull, rx, ry, hdown, hup⟩ := HL.out
    clear HL HA HB HC CKN
    have ek : IntKind.i64.wrap (0 - x) = k := by rw [IntWalk.i64_in _ (by omega)]; omega
    have ek2 : IntKind.i64.wrap (-x) = k := by rw [IntWalk.i64_in _ (by omega)]; omega
    rcases rx with rfl | rfl | rfl <;> rcases ry with rfl | rfl | rfl
    · have hk : k = 1 := by omega
      subst hk
      have hz : z = -1 := by have := hdown (by omega) (by omega); omega
      subst hz
      clear ek ek2 hback hdown hup
      by_cases h4 : st = 4
      · have hab : ¬ a = b := fun h => by have := (hfull h4).2 h; omega
        subst h4
        clear hfull
        have ht : (a.toList == b.toList) = false := lists_ne hab
        go_wp2_with fail
        go_ret
        exact ⟨ret_bool (by first | rfl | decide | simp), b8⟩
      · have d4 : (st == 4) = false := by simpa using h4
        clear hfull
        go_wp2_with fail
        go_ret
        exact ⟨ret_bool (by first | rfl | decide | simp), b8⟩
    · have hk : k = 1 := by omega
      subst hk
      have hz : z = -1 := by have := hdown (by omega) (by omega); omega
      subst hz
      clear ek ek2 hback hdown hup
      by_cases h4 : st = 4
      · have hab : ¬ a = b := fun h => by have := (hfull h4).2 h; omega
        subst h4
        clear hfull
        have ht : (a.toList == b.toList) = false := lists_ne hab
        go_wp2_with fail
        go_ret
        exact ⟨ret_bool (by first | rfl | decide | simp), b8⟩
      · have d4 : (st == 4) = false := by simpa using h4
        clear hfull
        go_wp2_with fail
        go_ret
        exact ⟨ret_bool (by first | rfl | decide | simp), b8⟩
    · have hk : k = 1 := by omega
      subst hk
      clear ek ek2 hback hdown hup
      by_cases h4 : st = 4
      · have hab : ¬ a = b := fun h => by have := (hfull h4).2 h; omega
        subst h4
        clear hfull
        have ht : (a.toList == b.toList) = false := lists_ne hab
        go_wp2_with fail
        go_ret
        exact ⟨ret_bool (by first | rfl | decide | simp), b8⟩
      · have d4 : (st == 4) = false := by simpa using h4
        clear hfull
        go_wp2_with fail
        go_ret
        exact ⟨ret_bool (by first | rfl | decide | simp), b8⟩
    · have hk : k = 0 := by omega
      subst hk
      have hz : z = -1 := by have := hdown (by omega) (by omega); omega
      subst hz
      clear ek ek2 hback hdown hup
      by_cases h4 : st = 4
      · have hab : a = b := (hfull h4).1 rfl
        subst h4
        clear hfull
        subst hab
        have ht : (a.toList == a.toList) = true := by simp
        go_wp2_with fail
        go_ret
        exact ⟨ret_bool (by first | rfl | decide | simp), b8⟩
      · have d4 : (st == 4) = false := by simpa using h4
        clear hfull
        go_wp2_with fail
        go_ret
        exact ⟨ret_bool (by first | rfl | decide | simp), b8⟩
    · have hk : k = 0 := by omega
      subst hk
      have hz : z = 0 := by have := hdown (by omega) (by omega); omega
      subst hz
      clear ek ek2 hback hdown hup
      by_cases h4 : st = 4
      · have hab : a = b := (hfull h4).1 rfl
        subst h4
        clear hfull
        subst hab
        have ht : (a.toList == a.toList) = true := by simp
        go_wp2_with fail
        go_ret
        exact ⟨ret_bool (by first | rfl | decide | simp), b8⟩
      · have d4 : (st == 4) = false := by simpa using h4
        clear hfull
        go_wp2_with fail
        go_ret
        exact ⟨ret_bool (by first | rfl | decide | simp), b8⟩
    · have hk : k = 0 := by omega
      subst hk
      have hz : z = 1 := by have := hup (by omega) (by omega); omega
      subst hz
      clear ek ek2 hback hdown hup
      by_cases h4 : st = 4
      · have hab : a = b := (hfull h4).1 rfl
        subst h4
        clear hfull
        subst hab
        have ht : (a.toList == a.toList) = true := by simp
        go_wp2_with fail
        go_ret
        exact ⟨ret_bool (by first | rfl | decide | simp), b8⟩
      · have d4 : (st == 4) = false := by simpa using h4
        clear hfull
        go_wp2_with fail
        go_ret
        exact ⟨ret_bool (by first | rfl | decide | simp), b8⟩
    · have hk : k = -1 := by omega
      subst hk
      clear ek ek2 hback hdown hup
      by_cases h4 : st = 4
      · have hab : ¬ a = b := fun h => by have := (hfull h4).2 h; omega
        subst h4
        clear hfull
        have ht : (a.toList == b.toList) = false := lists_ne hab
        go_wp2_with fail
        go_ret
        exact ⟨ret_bool (by first | rfl | decide | simp), b8⟩
      · have d4 : (st == 4) = false := by simpa using h4
        clear hfull
        go_wp2_with fail
        go_ret
        exact ⟨ret_bool (by first | rfl | decide | simp), b8⟩
    · have hk : k = -1 := by omega
      subst hk
      have hz : z = 1 := by have := hup (by omega) (by omega); omega
      subst hz
      clear ek ek2 hback hdown hup
      by_cases h4 : st = 4
      · have hab : ¬ a = b := fun h => by have := (hfull h4).2 h; omega
        subst h4
        clear hfull
        have ht : (a.toList == b.toList) = false := lists_ne hab
        go_wp2_with fail
        go_ret
        exact ⟨ret_bool (by first | rfl | decide | simp), b8⟩
      · have d4 : (st == 4) = false := by simpa using h4
        clear hfull
        go_wp2_with fail
        go_ret
        exact ⟨ret_bool (by first | rfl | decide | simp), b8⟩
    · have hk : k = -1 := by omega
      subst hk
      have hz : z = 1 := by have := hup (by omega) (by omega); omega
      subst hz
      clear ek ek2 hback hdown hup
      by_cases h4 : st = 4
      · have hab : ¬ a = b := fun h => by have := (hfull h4).2 h; omega
        subst h4
        clear hfull
        have ht : (a.toList == b.toList) = false := lists_ne hab
        go_wp2_with fail
        go_ret
        exact ⟨ret_bool (by first | rfl | decide | simp), b8⟩
      · have d4 : (st == 4) = false := by simpa using h4
        clear hfull
        go_wp2_with fail
        go_ret
        exact ⟨ret_bool (by first | rfl | decide | simp), b8⟩
  · have d0 : (E != 0) = true := by simpa using h0
    clear CAB CBC CAC CBA HE h0 HA HB HC
    go_wp2_with fail
    refine (CKN.out _).mono ?_
    rintro e w5 ⟨rfl, hb5⟩
    have b5 := b4.trans (hb5.mono b4.size)
    clear hb5 b4
    go_wp2_with fail
    go_ret
    exact ⟨rfl, b5⟩
end Go.Proofs.YtknnjnginmkblaaDoor
