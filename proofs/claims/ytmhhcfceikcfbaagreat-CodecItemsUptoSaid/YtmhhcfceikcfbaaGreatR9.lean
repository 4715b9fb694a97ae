/- Walks: the readers that hand a closure on. -/
import Derived.Test.YtmhhcfceikcfbaaGreatR8
namespace Go.Proofs.YtmhhcfceikcfbaaGreat
open Go.RowKit

theorem sz35 : (Tryz.prog.info? 35).map (·.size) = some 1 := by kernel_rfl
theorem sz36 : (Tryz.prog.info? 36).map (·.size) = some 1 := by kernel_rfl
theorem sz41 : (Tryz.prog.info? 41).map (·.size) = some 1 := by kernel_rfl
theorem sz42 : (Tryz.prog.info? 42).map (·.size) = some 1 := by kernel_rfl
theorem sz43 : (Tryz.prog.info? 43).map (·.size) = some 1 := by kernel_rfl
theorem sz44 : (Tryz.prog.info? 44).map (·.size) = some 1 := by kernel_rfl
theorem sz45 : (Tryz.prog.info? 45).map (·.size) = some 1 := by kernel_rfl
theorem sz108 : (Tryz.prog.info? 108).map (·.size) = some 1 := by kernel_rfl
theorem sz47 : (Tryz.prog.info? 47).map (·.size) = some 4 := by kernel_rfl
theorem size40 : (Tryz.prog.info? 40).map (·.size) = some 5 := sz40
theorem size47 : (Tryz.prog.info? 47).map (·.size) = some 4 := sz47
theorem grown_wide {a b b' : World} {r : Nat} (o : Obj) (h : a.grownBy b (some r)) (g : (b.alloc o).grownBy b' (some r)) : a.grownBy b' (some r) := grown_trans (grown_alloc h o) g
theorem ListC.up {α : Type} {R : Rp α} {p : Rd α} {sz ty r k0 : Nat} {s : ByteArray} {e0 : Int} {w w' : World} {e : Ending} (o : Obj) (hR : Stb R) (h : ListC R p sz ty r s k0 e0 (w.alloc o) e w') : ListC R p sz ty r s k0 e0 w e w' := by
  obtain ⟨v, l, k', e2, he, hsl, hr, hg, hres⟩ := h
  refine ⟨v, l, k', e2, he, hsl.stb hR (fun b hb => ⟨?_, hb.2⟩) (fun b _ _ => rfl), hr, grown_wide o (grown_refl w (some r)) hg, hres⟩
  have := hb.1
  simp at this
  omega

set_option maxRecDepth 100000 in
set_option maxHeartbeats 1000000 in
theorem rd157 (r k0 : Nat) (s : ByteArray) (e0 : Int) (w : World) (h : Rdr 99 r s k0 e0 w) (hk0 : k0 ≤ s.size) (hs : s.size ≤ 549755813888) :
    Calls Tryz.prog 157 #[.pointer (some ⟨r, 0, none⟩)] w (ListC twoP twoR 2 99 r s k0 e0 w) := by
  have hrw := lt_of_blk h
  have hcr : w.heap.size ≠ r := by omega
  have C := Lib.hid (get198 twoP twoR stb_two r w.heap.size k0 s e0 (w.alloc (.cells #[.pointer (some ⟨r, 0, none⟩)] 97)) (h.alloc _) hk0 hs (blk_cell (heap_alloc_new w _) 0) hcr (fun _ => clos199_any r _ s _ _ hs hcr))
  clear h
  go_enter Tryz.func157, Tryz.ntmps157
  go_wp2_with fail
  refine C.out.mono ?_
  rintro e w1 hl
  have HL := Lib.hid (hl.up _ stb_two)
  obtain ⟨v, l, k', e2, rfl, _⟩ := hl
  clear C
  go_wp2_with fail
  go_ret
  exact HL.out

set_option maxRecDepth 100000 in
set_option maxHeartbeats 1000000 in
theorem rd92 (r k0 : Nat) (s : ByteArray) (e0 : Int) (w : World) (h : Rdr 99 r s k0 e0 w) (hk0 : k0 ≤ s.size) (hs : s.size ≤ 549755813888) :
    Calls Tryz.prog 92 #[.pointer (some ⟨r, 0, none⟩)] w (ListC revP revR 3 99 r s k0 e0 w) := by
  have hrw := lt_of_blk h
  have hcr : w.heap.size ≠ r := by omega
  have C := Lib.hid (get171 revP revR stb_rev r w.heap.size k0 s e0 (w.alloc (.cells #[.pointer (some ⟨r, 0, none⟩)] 97)) (h.alloc _) hk0 hs (blk_cell (heap_alloc_new w _) 0) hcr (fun _ => clos172 r _ s _ _ hs hcr))
  clear h
  go_enter Tryz.func92, Tryz.ntmps92
  go_wp2_with fail
  refine C.out.mono ?_
  rintro e w1 hl
  have HL := Lib.hid (hl.up _ stb_rev)
  obtain ⟨v, l, k', e2, rfl, _⟩ := hl
  clear C
  go_wp2_with fail
  go_ret
  exact HL.out
end Go.Proofs.YtmhhcfceikcfbaaGreat
