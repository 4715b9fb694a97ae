/- Walk: the maker of the regions' iterator. -/
import Derived.RangeFuncNested
import Derived.RangeFuncBound
import Derived.RangeFuncCalls
import Derived.RangeFuncLeaves
import Derived.Shelf.Abstract
import Derived.Shelf.RegionOpen
import Derived.WalkKit
import Derived.OwnWalkIn
import Derived.TacticsInMore
import Derived.LoopNIn
import Derived.LoopIn
import Derived.RangeFuncBox
import Derived.Maps.AppendAt
import Derived.Test.YtbpegoekjlehcaaRg2
import Derived.Test.YtbpegoekjlehcaaW14
namespace Go.Proofs.Ytbpegoekjlehcaa
open Go.RowKit Go.Shelf
attribute [local go_sem] Oper.semAt_some

set_option maxHeartbeats 1000000 in
theorem regions_in (F : Fence) (n : Nat) (h40 : F.fn 40) (hro : F.round = none) (A A' A'' : Option Addr) (na nb np ca cb cp : Nat) (w : World) :
    CallsIn F n Try.prog 40 #[.slice A na ca, .slice A' nb cb, .slice A'' np cp] w fun e w' =>
      e = .returned (.func (.func 46) #[] #[.pointer (some ⟨w.heap.size + 2, 0, none⟩), .pointer (some ⟨w.heap.size, 0, none⟩), .pointer (some ⟨w.heap.size + 1, 0, none⟩)]) ∧
      w' = ((w.alloc (.cells #[.slice A na ca] 22)).alloc (.cells #[.slice A' nb cb] 22)).alloc (.cells #[.slice A'' np cp] 26) := by
  refine callsIn_of_wp Try.func40 rfl h40 ?_ hro
  simp only [Try.ntmps40, List.size_toArray, List.length_cons, List.length_nil, Nat.reduceAdd, Nat.reduceSub, Array.replicate_succ, Array.replicate_zero, List.push_toArray, List.append_toArray, List.nil_append, List.cons_append]
  gi_wp2
  go_ret
  exact ⟨rfl, rfl⟩
end Go.Proofs.Ytbpegoekjlehcaa
