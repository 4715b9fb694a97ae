/- Walks: the weight of an element on a level. -/
import Derived.Test.YtknnjnginmkblaaDoorW5
namespace Go.Proofs.YtknnjnginmkblaaDoor
open Go.RowKit

set_option maxRecDepth 100000 in
set_option maxHeartbeats 1000000 in
theorem primary_lib (x : El) (w : World) :
    Calls Tryd.prog 37 #[elV x] w fun e w' => e = .returned (.int .i64 (x.p : Int)) ∧ Below w.heap.size w w' := by
  show Calls Tryd.prog 37 #[.agg #[.int .i64 (x.p : Int), .int .i64 (x.s : Int), .int .i64 (x.t : Int)]] w _
  go_enter Tryd.func37, Tryd.ntmps37
  go_wp2_with fail
  go_ret
  exact ⟨rfl, (Below.refl _ _).alloc (Nat.le_refl _) _⟩

set_option maxRecDepth 100000 in
set_option maxHeartbeats 1000000 in
theorem secondary_lib (x : El) (w : World) :
    Calls Tryd.prog 38 #[elV x] w fun e w' => e = .returned (.int .i64 (x.s : Int)) ∧ Below w.heap.size w w' := by
  show Calls Tryd.prog 38 #[.agg #[.int .i64 (x.p : Int), .int .i64 (x.s : Int), .int .i64 (x.t : Int)]] w _
  go_enter Tryd.func38, Tryd.ntmps38
  go_wp2_with fail
  go_ret
  exact ⟨rfl, (Below.refl _ _).alloc (Nat.le_refl _) _⟩

set_option maxRecDepth 100000 in
set_option maxHeartbeats 1000000 in
theorem tertiary_lib (x : El) (w : World) :
    Calls Tryd.prog 39 #[elV x] w fun e w' => e = .returned (.int .i64 (x.t : Int)) ∧ Below w.heap.size w w' := by
  show Calls Tryd.prog 39 #[.agg #[.int .i64 (x.p : Int), .int .i64 (x.s : Int), .int .i64 (x.t : Int)]] w _
  go_enter Tryd.func39, Tryd.ntmps39
  go_wp2_with fail
  go_ret
  exact ⟨rfl, (Below.refl _ _).alloc (Nat.le_refl _) _⟩

end Go.Proofs.YtknnjnginmkblaaDoor
