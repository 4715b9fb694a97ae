/- Walks: the accented letters. -/
import Derived.Test.YtknnjnginmkblaaDoorW8
import Derived.Laws.Rows
import Derived.Laws.Tables
import Derived.Laws.CopyOwn
namespace Go.Proofs.YtknnjnginmkblaaDoor
open Go.RowKit

def accV : Array Value := (accL.flatMap fun x => [Value.int .u8 (x.1 : Int), Value.int .i64 (x.2 : Int)]).toArray
theorem info112 : (Tryd.prog.info? 112).map (·.size) = some accV.size := by kernel_rfl
theorem one112 : accV.all (·.oneCell') = true := by kernel_rfl

set_option maxRecDepth 100000 in
set_option maxHeartbeats 1000000 in
theorem letters_lib (w : World) :
    Calls Tryd.prog 78 #[] w fun e w' => e = .returned (.agg accV) ∧ Below w.heap.size w w' := by
  go_enter Tryd.func78, Tryd.ntmps78
  go_wp2_with (refine wpList_store_row rfl 112 _ _ rfl w.heap.size accV rfl (by kernel_rfl) 112 _ (heap_alloc_new _ _) info112 (by kernel_rfl) one112 ?_)
  refine bodyPost_ret (v := .agg accV) (results_cell_row rfl _ _ w.heap.size 112 accV (0, 0) _ rfl (setRow_heap _ _ _ _ _ _ (heap_alloc_new _ _)) Tryd.underlying112 rfl info112) rfl ⟨rfl, ?_⟩
  exact below_setRow ((Below.refl _ _).alloc (Nat.le_refl _) _) (Nat.le_refl _) _
end Go.Proofs.YtknnjnginmkblaaDoor
