/- Walks: the methods of a nil map; IntervalmapNil. -/
import Derived.Test.YtpcjklfdgjeamaaW10
namespace Go.Proofs.Ytpcjklfdgjeamaa
open Go.RowKit

theorem run_eql_nil_ptr {P : Program} (w : World) (t : TypeId) (a : Addr) (h : P.underlying t = some (.pointer (P.pointee t))) : (binOp .eql t (.pointer none) (.pointer (some a))).run P w = .ok (.bool false) w := by
  have h1 : ∀ d : Nat, (Op.equalIn (d + 1) t (.pointer none) (.pointer (some a))).run P w = .ok false w := fun d => by simp [Op.equalIn, run_underlying h]
  have h2 : (Op.equal t (.pointer none) (.pointer (some a))).run P w = .ok false w := h1 9999
  simp only [binOp]
  simp [h2]

set_option maxRecDepth 100000 in
theorem at_nil (a : Int) (w : World) : Calls Try.prog 27 #[.pointer none, .int .i64 a] w fun e w' => e = .returned (.tuple #[.int .i64 0, .int .i64 1]) ∧ w = w' := by
  go_enter Try.func27, Try.ntmps27
  go_wp2
  go_ret2
  exact ⟨rfl, rfl⟩

set_option maxRecDepth 100000 in
theorem total_nil (a b v : Int) (w : World) : Calls Try.prog 19 #[.pointer none, .int .i64 a, .int .i64 b, .int .i64 v] w fun e w' => e = .returned (.tuple #[.int .i64 0, .int .i64 1]) ∧ w = w' := by
  go_enter Try.func19, Try.ntmps19
  go_wp2
  go_ret2
  exact ⟨rfl, rfl⟩

set_option maxRecDepth 100000 in
theorem next_nil (a : Int) (w : World) : Calls Try.prog 28 #[.pointer none, .int .i64 a] w fun e w' => e = .returned (.tuple #[.int .i64 0, .bool false]) ∧ Below w.heap.size w w' := by
  go_enter Try.func28, Try.ntmps28
  go_wp2
  go_ret2
  exact ⟨rfl, (Below.refl _ _).alloc (Nat.le_refl _) _⟩

set_option maxRecDepth 100000 in
theorem find_nil (a v : Int) (w : World) : Calls Try.prog 29 #[.pointer none, .int .i64 a, .int .i64 v] w fun e w' => e = .returned (.tuple #[.int .i64 0, .bool false]) ∧ Below w.heap.size w w' := by
  go_enter Try.func29, Try.ntmps29
  go_wp2
  go_ret2
  exact ⟨rfl, ((Below.refl _ _).alloc (Nat.le_refl _) _).alloc (by simp) _⟩

set_option maxRecDepth 100000 in
theorem zip_nilL (x : Option Addr) (w : World) : Calls Try.prog 32 #[.pointer none, .pointer x] w fun e w' => e = .returned (.tuple #[.slice none 0 0, .int .i64 1]) ∧ w = w' := by
  go_enter Try.func32, Try.ntmps32
  go_wp2
  go_ret2
  exact ⟨rfl, rfl⟩

set_option maxRecDepth 100000 in
theorem zip_nilR (x : Addr) (w : World) : Calls Try.prog 32 #[.pointer (some x), .pointer none] w fun e w' => e = .returned (.tuple #[.slice none 0 0, .int .i64 1]) ∧ w = w' := by
  go_enter Try.func32, Try.ntmps32
  go_wp2
  go_ret2
  exact ⟨rfl, rfl⟩

set_option maxRecDepth 100000 in
theorem set_nil (a b v : Int) (w : World) : Calls Try.prog 23 #[.pointer none, .int .i64 a, .int .i64 b, .int .i64 v] w fun e w' => e = .returned (.int .i64 1) ∧ w = w' := by
  go_enter Try.func23, Try.ntmps23
  go_wp2
  go_ret
  exact ⟨rfl, rfl⟩

set_option maxRecDepth 100000 in
theorem add_nil (a b v : Int) (w : World) : Calls Try.prog 34 #[.pointer none, .int .i64 a, .int .i64 b, .int .i64 v] w fun e w' => e = .returned (.int .i64 1) ∧ Below w.heap.size w w' := by
  go_enter Try.func34, Try.ntmps34
  go_wp2
  go_ret
  exact ⟨rfl, (Below.refl _ _).alloc (Nat.le_refl _) _⟩

set_option maxRecDepth 100000 in
theorem splice_nil (a b d v : Int) (w : World) : Calls Try.prog 26 #[.pointer none, .int .i64 a, .int .i64 b, .int .i64 d, .int .i64 v] w fun e w' => e = .returned (.int .i64 1) ∧ Below w.heap.size w w' := by
  go_enter Try.func26, Try.ntmps26
  go_wp2
  go_ret
  exact ⟨rfl, ((Below.refl _ _).alloc (Nat.le_refl _) _).alloc (by simp) _⟩

set_option maxRecDepth 100000 in
theorem runs_nil  (w : World) : Calls Try.prog 15 #[.pointer none] w fun e w' => e = .returned (.slice none 0 0) ∧ w = w' := by
  go_enter Try.func15, Try.ntmps15
  go_wp2
  go_ret
  exact ⟨rfl, rfl⟩

set_option maxRecDepth 100000 in
theorem clone_nil  (w : World) : Calls Try.prog 22 #[.pointer none] w fun e w' => e = .returned (.pointer none) ∧ w = w' := by
  go_enter Try.func22, Try.ntmps22
  go_wp2
  go_ret
  exact ⟨rfl, rfl⟩

set_option maxRecDepth 100000 in
theorem equal_nn  (w : World) : Calls Try.prog 24 #[.pointer none, .pointer none] w fun e w' => e = .returned (.bool true) ∧ w = w' := by
  go_enter Try.func24, Try.ntmps24
  go_wp2
  go_ret
  exact ⟨rfl, rfl⟩

set_option maxRecDepth 100000 in
theorem equal_nx (m : Nat) (w : World) : Calls Try.prog 24 #[.pointer none, .pointer (some ⟨m, 0, none⟩)] w fun e w' => e = .returned (.bool false) ∧ w = w' := by
  have hq : ∀ w : World, (binOp .eql 22 (.pointer none) (.pointer (some ⟨m, 0, none⟩))).run Try.prog w = .ok (.bool false) w := fun w => run_eql_nil_ptr w 22 ⟨m, 0, none⟩ (by kernel_rfl)
  go_enter Try.func24, Try.ntmps24
  go_wp2
  go_ret
  exact ⟨rfl, rfl⟩

set_option maxRecDepth 100000 in
theorem equal_xn (m : Nat) (w : World) : Calls Try.prog 24 #[.pointer (some ⟨m, 0, none⟩), .pointer none] w fun e w' => e = .returned (.bool false) ∧ w = w' := by
  go_enter Try.func24, Try.ntmps24
  go_wp2
  go_ret
  exact ⟨rfl, rfl⟩

set_option maxRecDepth 100000 in
set_option maxHeartbeats 4000000 in
theorem nil_any (a b v : Int) (w : World) : Calls Try.prog 11 #[.int .i64 a, .int .i64 b, .int .i64 v] w fun e w' => e = .returned (.bool true) ∧ Below w.heap.size w w' := by
  go_enter Try.func11, Try.ntmps11
  go_wp2_with fail
  refine (new_ok 1 v w (by omega) (by omega)).mono ?_
  rintro e w1 ⟨m, rfl, _, _, b1⟩
  go_wp2_with fail
  refine (at_nil a w1).mono ?_
  rintro e w' ⟨rfl, rfl⟩
  go_wp2_with fail
  refine (total_nil a b v w1).mono ?_
  rintro e w' ⟨rfl, rfl⟩
  go_wp2_with fail
  refine (next_nil a w1).mono ?_
  rintro e w2 ⟨rfl, bb⟩
  have b2 : Below w.heap.size w w2 := b1.trans (bb.mono b1.size)
  clear bb b1
  go_wp2_with fail
  refine (find_nil a v w2).mono ?_
  rintro e w3 ⟨rfl, bb⟩
  have b3 : Below w.heap.size w w3 := b2.trans (bb.mono b2.size)
  clear bb b2
  go_wp2_with fail
  refine (zip_nilL _ w3).mono ?_
  rintro e w' ⟨rfl, rfl⟩
  go_wp2_with fail
  refine (zip_nilR _ w3).mono ?_
  rintro e w' ⟨rfl, rfl⟩
  go_wp2_with fail
  refine (known_any w3).mono ?_
  rintro e w4 ⟨rfl, bb⟩
  have b4 : Below w.heap.size w w4 := b3.trans (bb.mono b3.size)
  clear bb b3
  go_wp2_with fail
  refine (set_nil a b v w4).mono ?_
  rintro e w' ⟨rfl, rfl⟩
  go_wp2_with fail
  refine (add_nil a b v w4).mono ?_
  rintro e w5 ⟨rfl, bb⟩
  have b5 : Below w.heap.size w w5 := b4.trans (bb.mono b4.size)
  clear bb b4
  go_wp2_with fail
  refine (splice_nil a b a v w5).mono ?_
  rintro e w6 ⟨rfl, bb⟩
  have b6 : Below w.heap.size w w6 := b5.trans (bb.mono b5.size)
  clear bb b5
  go_wp2_with fail
  refine (len_nil w6).mono ?_
  rintro e w' ⟨rfl, rfl⟩
  go_wp2_with fail
  refine (runs_nil w6).mono ?_
  rintro e w' ⟨rfl, rfl⟩
  go_wp2_with fail
  refine (clone_nil w6).mono ?_
  rintro e w' ⟨rfl, rfl⟩
  go_wp2_with fail
  refine (equal_nn w6).mono ?_
  rintro e w' ⟨rfl, rfl⟩
  go_wp2_with fail
  refine (equal_nx _ w6).mono ?_
  rintro e w' ⟨rfl, rfl⟩
  go_wp2_with fail
  refine (equal_xn _ w6).mono ?_
  rintro e w' ⟨rfl, rfl⟩
  go_wp2
  go_ret
  exact ⟨rfl, b6⟩
end Go.Proofs.Ytpcjklfdgjeamaa
