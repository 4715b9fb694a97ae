/- Walks: what the closures of the readers read. -/
import Derived.Test.YtmhhcfceikcfbaaGreatR3
import Derived.Test.YtmhhcfceikcfbaaGreatRep
import Derived.Deep.RegionHeld3
import Derived.Deep.Cut
namespace Go.Proofs.YtmhhcfceikcfbaaGreat
open Go.RowKit

theorem info187 : (Tryz.prog.info? 187).map (·.size) = some 2 := by kernel_rfl
set_option maxRecDepth 100000 in
set_option maxHeartbeats 1000000 in
theorem clos199 (r c k0 : Nat) (s : ByteArray) (e0 : Int) (w : World) (h : Rdr 99 r s k0 e0 w) (hk0 : k0 ≤ s.size) (hs : s.size ≤ 1099511627776) (hc : w.cell? ⟨c, 0, none⟩ = some (.pointer (some ⟨r, 0, none⟩))) (hcr : c ≠ r) :
    Calls Tryz.prog 199 #[.pointer (some ⟨c, 0, none⟩)] w fun e w' => ∃ (x : Two) (k' : Nat) (e' : Int), e = .returned (.agg #[.int .i64 x.1, .int .i64 x.2]) ∧ twoD x ∧ Rdr 99 r s k' e' w' ∧ w.grownBy w' (some r) ∧ Res twoR s k0 e0 x k' e' := by
  have hcl := World.block_lt_of_cell? _ _ hc
  have hcg : c ≠ w.heap.size := Nat.ne_of_lt hcl
  have hgr : w.heap.size ≠ r := fun e => by
    have := lt_of_blk h
    omega
  have h0 := h.alloc (.cells #[.int .i64 0, .int .i64 0] 187)
  have hc1 : (w.alloc (.cells #[.int .i64 0, .int .i64 0] 187)).cell? ⟨c, 0, none⟩ = some (.pointer (some ⟨r, 0, none⟩)) := (World.cell?_of_block (Below.heap_alloc _ _ _ hcl)).trans hc
  have hgb : (w.alloc (.cells #[.int .i64 0, .int .i64 0] 187)).heap[w.heap.size]? = some (.cells #[.int .i64 0, .int .i64 0] 187 (0, 0)) := heap_alloc_new w _
  have HG : Hid (w.grownBy (w.alloc (.cells #[.int .i64 0, .int .i64 0] 187)).drew (some r)) := Lib.hid (grown_drewN (grown_alloc (grown_refl w (some r)) _) 1)
  clear h hc
  go_enter Tryz.func199, Tryz.ntmps199
  go_upto_region 1 with fail
  go_region_held3 (fun w' => w'.cell? ⟨c, 0, none⟩ = some (.pointer (some ⟨r, 0, none⟩)))
    (first
      | exact hc1
      | (repeat refine (World.cell?_of_block (heap_setCell_other _ _ c _ hcg)).trans ?_
         exact hc1))
    (first
      | (go_at_call 43
         refine Calls.mono (number43_any r k1 s e1 _ ?_ hk1 hs) ?_
         exact h1
         rintro e w2 ⟨x2, k2, e2, rfl, hx2, h2, hg, hs2⟩
         have hgb := blk_over hg hgb hgr
         have hc1 := grown_cell hg hc1 hcr
         have HG := Lib.hid (grown_trans HG.out hg)
         have f0 := blk_free hgb 0
         have f1 := blk_free hgb 1
         have b0 : w2.cell? ⟨w.heap.size, 0, none⟩ = some (.int .i64 0) := blk_cell hgb 0
         have b1 : w2.cell? ⟨w.heap.size, 1, none⟩ = some (.int .i64 0) := blk_cell hgb 1
         have hk2 := hs2.1)
      | (go_at_call 43
         refine Calls.mono (number43_any r k0 s e0 _ ?_ hk0 hs) ?_
         exact h0
         rintro e w1 ⟨x1, k1, e1, rfl, hx1, h1, hg, hs1⟩
         have hgb := blk_over hg hgb hgr
         have hc1 := grown_cell hg hc1 hcr
         have HG := Lib.hid (grown_trans HG.out hg)
         have f0 := blk_free hgb 0
         have f1 := blk_free hgb 1
         have b0 : w1.cell? ⟨w.heap.size, 0, none⟩ = some (.int .i64 0) := blk_cell hgb 0
         have b1 : w1.cell? ⟨w.heap.size, 1, none⟩ = some (.int .i64 0) := blk_cell hgb 1
         have hk1 := hs1.1))
  have HR := Lib.hid ((h2.other hgr 0 (.int .i64 x1)).other hgr 1 (.int .i64 x2))
  have HGZ := Lib.hid (grown_new (grown_new HG.out (Nat.le_refl _) 0 (.int .i64 x1)) (Nat.le_refl _) 1 (.int .i64 x2))
  have hz := heap_setCell_same _ _ 1 _ _ (.int .i64 x2) (heap_setCell_same _ _ 0 _ _ (.int .i64 x1) hgb)
  have HS := Lib.hid (hs1.seq hs2)
  have HX := Lib.hid (And.intro hx1 hx2)
  obtain ⟨wz, hwz⟩ : ∃ wz, wz = (w2.setCell ⟨w.heap.size, 0, none⟩ (.int .i64 x1)).setCell ⟨w.heap.size, 1, none⟩ (.int .i64 x2) := ⟨_, rfl⟩
  rw [← hwz] at HR HGZ hz ⊢
  have z0 : wz.cell? ⟨w.heap.size, 0, none⟩ = some (.int .i64 x1) := blk_cell hz 0
  have z1 : wz.cell? ⟨w.heap.size, 1, none⟩ = some (.int .i64 x2) := blk_cell hz 1
  have y0 := blk_free hz 0
  have y1 := blk_free hz 1
  have HB := Lib.hid (heap_setCell_same _ _ 1 _ _ (.int .i64 x2) (heap_setCell_same _ _ 0 _ _ (.int .i64 x1) hz))
  clear hwz hz
  have HZ := Lib.hid (And.intro ((HR.out.other hgr 0 (.int .i64 x1)).other hgr 1 (.int .i64 x2)) (grown_new (grown_new HGZ.out (Nat.le_refl _) 0 (.int .i64 x1)) (Nat.le_refl _) 1 (.int .i64 x2)))
  clear HR HGZ
  go_wp2_with fail
  refine bodyPost_ret (v := .agg #[.int .i64 x1, .int .i64 x2]) (results_cell_row rfl _ _ w.heap.size 187 #[.int .i64 x1, .int .i64 x2] (0, 0) _ rfl HB.out Tryz.underlying187 rfl info187) rfl ?_
  exact ⟨(x1, x2), k2, e2, rfl, HX.out, HZ.out.1, HZ.out.2, HS.out⟩
end Go.Proofs.YtmhhcfceikcfbaaGreat
