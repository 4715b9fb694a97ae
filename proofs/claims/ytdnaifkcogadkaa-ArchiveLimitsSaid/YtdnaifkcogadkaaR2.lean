/- Walk: the law's own entries. -/
import Derived.Test.YtdnaifkcogadkaaR1
namespace Go.Proofs.Ytdnaifkcogadkaa
open Go.RowKit

theorem alloc_drewN (w : World) (n : Nat) (o : Obj) : (w.drewN n).alloc o = (w.alloc o).drewN n := rfl
theorem setCell_drewN (w : World) (n : Nat) (a : Addr) (v : Value) : (w.drewN n).setCell a v = (w.setCell a v).drewN n := rfl
attribute [local go_sem] alloc_drewN setCell_drewN
/-- An entry's box. -/
def BoxE (w : World) (B : Nat) (x : Ent) (a : Nat) : Prop := w.heap[B]? = some (.cells #[.string x.name, .int .i64 a, .int .i64 x.size, .int .u32 x.sum] 43 (0, 0))
section
variable {w w' : World} {B a : Nat} {x : Ent}
theorem BoxE.cs (h : BoxE w B x a) : w.cell? ⟨B, 0, none⟩ = some (.string x.name) ∧ w.cell? ⟨B, 1, none⟩ = some (.int .i64 a) ∧ w.cell? ⟨B, 2, none⟩ = some (.int .i64 x.size) ∧ w.cell? ⟨B, 3, none⟩ = some (.int .u32 x.sum) ∧ BoxE w B x a :=
  ⟨blk_cell h 0, blk_cell h 1, blk_cell h 2, blk_cell h 3, h⟩
theorem BoxE.over (h : BoxE w B x a) (hb : Below w.heap.size w w') : BoxE w' B x a := (hb.block _ (lt_of_block h)).trans h
theorem BoxE.alloc (h : BoxE w B x a) (o : Obj) : BoxE (w.alloc o) B x a := (Below.heap_alloc _ _ _ (lt_of_block h)).trans h
theorem BoxE.grown {v : Value} (h : BoxE w B x a) (hne : some B ≠ v.ownBlock) (hg : w.grownBy w' v.ownBlock) : BoxE w' B x a := (hg.block B (lt_of_block h) hne).trans h
end
theorem Own.newNe {α : Type} {enc : α → List Value} {sz : Nat} {E : TypeId} {W : World} {base : Nat} {v : Value} {l : List α} (hown : Own enc sz E W base v l) : some W.heap.size ≠ v.ownBlock := by
  have h : W.ownsRow base E sz v l.length (l.flatMap enc) := hown
  rcases h.2 with ⟨rfl, _⟩ | ⟨g, cap, cur, rfl, _, hgb, _⟩
  · simp [Value.ownBlock]
  · intro e
    have := lt_of_block hgb
    simp only [Value.ownBlock, Option.some.injEq] at e
    omega
theorem sizes_le {q : List Ent} (h : ∀ x ∈ q, x.size < 4294967296) : sizes q ≤ q.length * 4294967296 := by
  induction q with
  | nil => simp [sizes]
  | cons x q ih =>
    have h1 := h x (by simp)
    have h2 := ih (fun y hy => h y (by simp [hy]))
    simp only [sizes, List.map_cons, List.sum_cons, List.length_cons] at h2 ⊢
    omega

set_option maxRecDepth 100000 in
set_option maxHeartbeats 8000000 in
/-- Entries, with offsets. -/
theorem entries_ref (s : ByteArray) (off : Nat) (w : World) (hs : s.size ≤ 1048576000) (hoff : off ≤ 1099511627776) :
    Calls Try.prog 44 #[.string s, .int .i64 off] w fun e w' => ∃ v b, e = .returned (.tuple #[v, .bool b]) ∧ EntPost w.heap.size ((entL (bytesN s)).map fun es => withOff off es) v b w' ∧ Below w.heap.size w w' := by
  obtain ⟨i0, hi, hz0, hz1, hz2⟩ := info_parts info43
  go_enter Try.func44, Try.ntmps44
  go_wp2_with fail
  go_loopw [0, 1, 4] (fun dv fv ov wr => ∃ (d : ByteArray) (q : List Ent) (t : Nat), dv = .string d ∧ fv = .int .i64 t ∧ d.size + q.length ≤ s.size ∧ Hid (t = off + sizes q) ∧ t ≤ off + q.length * 4294967296 ∧ Hid (entL (bytesN s) = (entL (bytesN d)).map fun t => q ++ t) ∧ OwnE wr w.heap.size ov (withOff off q) ∧ Below w.heap.size w wr) (fun dv _ _ _ => lenStr dv)
  case atStart => exact ⟨s, [], off, rfl, rfl, by simp, Lib.hid (by simp [sizes]), by omega, Lib.hid (by simp), Own.nil _ _, Below.refl _ _⟩
  case round =>
    obtain ⟨d, q, t, rfl, rfl, hsz, HTo, htl, HE, hown, hb⟩ := hrel
    have hbz := hb.size
    by_cases hpos : 0 < d.size
    · obtain ⟨c, hc⟩ : ∃ c, d[0].toNat = c := ⟨_, rfl⟩
      have hcl : c < 256 := by rw [← hc]; exact d[0].toNat_lt
      obtain ⟨hE1, hE2⟩ := entL_step d hpos c hc
      by_cases hsh : d.size < 9 + c
      · have HN : Hid (entL (bytesN s) = none) := Lib.hid (by rw [HE.out, hE1 hsh]; rfl)
        have hd1 : decide ((d.size : Int) < 1 + (c : Int) + 8) = true := by simp; omega
        clear hE1 hE2
        go_wp2_with fail
        go_ret2
        refine ⟨_, _, rfl, ?_, hb⟩
        rw [HN.out]
        exact ⟨rfl, rfl⟩
      · have hE3 := hE2 (by omega)
        have HE3 := Lib.hid hE3
        clear hE1 hE2
        obtain ⟨n, hn⟩ : ∃ n, n = 1 + c := ⟨_, rfl⟩
        obtain ⟨m, hm⟩ : ∃ m, m = 5 + c := ⟨_, rfl⟩
        obtain ⟨r, hr⟩ : ∃ r, r = 9 + c := ⟨_, rfl⟩
        obtain ⟨x, hx⟩ : ∃ x, x = d.extract 1 n := ⟨_, rfl⟩
        obtain ⟨d1, hd1⟩ : ∃ d1, d1 = d.extract n d.size := ⟨_, rfl⟩
        obtain ⟨d2, hd2⟩ : ∃ d2, d2 = d.extract m d.size := ⟨_, rfl⟩
        obtain ⟨z, hz⟩ : ∃ z, z = get4 (bytesN d) n := ⟨_, rfl⟩
        obtain ⟨u, hu⟩ : ∃ u, u = get4 (bytesN d) m := ⟨_, rfl⟩
        obtain ⟨d', hd'⟩ : ∃ d', d' = d.extract r d.size := ⟨_, rfl⟩
        rw [← hn, ← hm, ← hr, ← hx, ← hz, ← hu, ← hd'] at HE3
        have HT : Hid (entL (bytesN s) = (entL (bytesN d')).map fun t => (q ++ [⟨x, z, u⟩]) ++ t) := Lib.hid (by
          rw [HE.out, HE3.out, Option.map_map]
          congr 1
          funext t
          simp)
        have hs1 : d1.size = d.size - n := by rw [hd1, ByteArray.size_extract]; omega
        have hs2 : d2.size = d.size - m := by rw [hd2, ByteArray.size_extract]; omega
        have ex : ∀ k, get4 (bytesN (d.extract k d.size)) 0 = get4 (bytesN d) k := fun k => by
          rw [bytesN_extract, List.take_of_length_le (by rw [bytesN_length]; exact Nat.le_refl _), get4_drop, Nat.add_zero]
        have C1 : Hid (∀ W, Calls Try.prog 43 #[.string d1] W fun e w' => e = .returned (.int .u32 z) ∧ ∃ k, w' = W.drewN k) := Lib.hid (fun W => by rw [hz, ← ex, ← hd1]; exact get_any d1 W (by omega) (by omega))
        have C2 : Hid (∀ W, Calls Try.prog 43 #[.string d2] W fun e w' => e = .returned (.int .u32 u) ∧ ∃ k, w' = W.drewN k) := Lib.hid (fun W => by rw [hu, ← ex, ← hd2]; exact get_any d2 W (by omega) (by omega))
        have hzl : z < 4294967296 := by rw [hz]; exact get4_lt (bytesN_lt d) _
        have hul : u < 4294967296 := by rw [hu]; exact get4_lt (bytesN_lt d) _
        have hds : d'.size + r = d.size := by rw [hd', ByteArray.size_extract]; omega
        have HW : Hid (withOff off (q ++ [⟨x, z, u⟩]) = withOff off q ++ [((⟨x, z, u⟩ : Ent), t)] ∧ t + z = off + sizes (q ++ [⟨x, z, u⟩])) := Lib.hid (by
          have e0 := HTo.out
          refine ⟨by rw [withOff_append, ← e0]; rfl, ?_⟩
          rw [sizes_append, e0]
          simp [sizes]
          omega)
        have hwl : (withOff off q).length = q.length := withOff_length _ _
        obtain ⟨wq, hwq⟩ : ∃ wq, wq = withOff off q := ⟨_, rfl⟩
        rw [← hwq] at HW hown hwl
        have hx' := hx.symm
        have hdd1 := hd1.symm
        have hdd2 := hd2.symm
        have hdd' := hd'.symm
        have en : (1 : Int) + (c : Int) = (n : Int) := by omega
        have en' : IntKind.i64.wrap (n : Int) = (n : Int) := IntWalk.i64_in _ (by omega)
        have em : IntKind.i64.wrap ((5 : Int) + (c : Int)) = (m : Int) := by rw [IntWalk.i64_in _ (by omega)]; omega
        have er : IntKind.i64.wrap ((9 : Int) + (c : Int)) = (r : Int) := by rw [IntWalk.i64_in _ (by omega)]; omega
        have ez : IntKind.i64.wrap (z : Int) = (z : Int) := IntWalk.i64_in _ (by omega)
        have et : IntKind.i64.wrap ((t : Int) + (z : Int)) = (t : Int) + (z : Int) := IntWalk.i64_in _ (by omega)
        have HDL : Hid (d'.size < d.size) := Lib.hid (by omega)
        have k1 : (1 : Int) ≤ (n : Int) := by omega
        have k2 : (n : Int) ≤ (d.size : Int) := by omega
        have k3 : (r : Int) ≤ (d.size : Int) := by omega
        have k5 : (m : Int) ≤ (d.size : Int) := by omega
        have k4 : r ≤ d.size := by omega
        have k6 : m ≤ d.size := by omega
        have k7 : n ≤ d.size := by omega
        have hd3 : decide ((d.size : Int) < (n : Int) + 8) = false := by simp; omega
        have hql : wq.length ≤ 1048576000 := by omega
        have htz : t + z ≤ off + (q ++ [(⟨x, z, u⟩ : Ent)]).length * 4294967296 := by rw [List.length_append, List.length_singleton]; omega
        have hdq : d'.size + (q ++ [(⟨x, z, u⟩ : Ent)]).length ≤ s.size := by rw [List.length_append, List.length_singleton]; omega
        clear hE3 HE3 hx hz hu hd' hn hm hr hd1 hd2 ex hwq hwl hsz htl HTo HE hs1 hs2
        go_wp2_with fail
        have bx0 : BoxE (wr.alloc (.cells #[.string x, .int .i64 t, .int .i64 z, .int .u32 u] 43)) wr.heap.size ⟨x, z, u⟩ t := heap_alloc_new _ _
        have hnn := Own.newNe hown
        have hown' := Own.alloc hown (.cells #[.string x, .int .i64 t, .int .i64 z, .int .u32 u] 43)
        have hb' := hb.alloc hbz (.cells #[.string x, .int .i64 t, .int .i64 z, .int .u32 u] 43)
        go_region_held3 (fun _ => True) (trivial)
          (first
            | (go_at_call 43; (with_reducible refine (C1.out _).mono ?_); rintro e w' ⟨rfl, a1, rfl⟩)
            | (go_at_call 43; (with_reducible refine (C2.out _).mono ?_); rintro e w' ⟨rfl, a2, rfl⟩))
        all_goals (
          have hA := fun n => BoxE.cs (show BoxE (((wr.alloc (.cells #[.string x, .int .i64 t, .int .i64 z, .int .u32 u] 43)).drewN n).drew) wr.heap.size ⟨x, z, u⟩ t from bx0)
          have hB := fun n => (show BoxE (((wr.alloc (.cells #[.string x, .int .i64 t, .int .i64 z, .int .u32 u] 43)).alloc (.cells #[.string x, .int .i64 t, .int .i64 z, .int .u32 u] 43)).drewN n) wr.heap.size ⟨x, z, u⟩ t from BoxE.alloc bx0 _)
          go_wp2_with fail
          go_region_held3 (fun w' => w'.cell? ⟨wr.heap.size, 0, none⟩ = some (.string x) ∧ w'.cell? ⟨wr.heap.size, 1, none⟩ = some (.int .i64 t) ∧ w'.cell? ⟨wr.heap.size, 2, none⟩ = some (.int .i64 z) ∧ w'.cell? ⟨wr.heap.size, 3, none⟩ = some (.int .u32 u) ∧ BoxE w' wr.heap.size ⟨x, z, u⟩ t)
            (first
              | exact hA _
              | exact BoxE.cs (hB _)
              | exact BoxE.cs (BoxE.grown (hB _) hnn hg1))
            ((refine step_append_sl _ (by rfl) _ _ 39 (by rfl) w.heap.size 43 i0 _ 40 Try.underlying39 hi hz0 hz1 hz2 rfl (by decide) encE_length encE_each u4 wq (by rfl) (Own.drewN (Own.alloc hown' _) _) (wr.heap.size + 2) _ [((⟨x, z, u⟩ : Ent), t)] (by rfl) (Sl.one (enc := encE) ((wr.alloc (.cells #[.string x, .int .i64 t, .int .i64 z, .int .u32 u] 43)).drewN _) ((⟨x, z, u⟩ : Ent), t) 43 (wr.heap.size + 1) (by simp) (wr.heap.size + 2) (by omega)) (by simp; omega) (by simp; omega) (by simp; omega) ?_; intro v1 w1 hown1 hg1))
          have hb2 : Below w.heap.size w w1 := (below_drewN (hb'.alloc hb'.size (.cells #[.string x, .int .i64 t, .int .i64 z, .int .u32 u] 43)) 0).trans (Own.belowG (Own.alloc hown' (.cells #[.string x, .int .i64 t, .int .i64 z, .int .u32 u] 43)) (by simp; omega) ⟨hg1.os, hg1.tape, hg1.output, hg1.size, hg1.block⟩)
          rw [← HW.out.1] at hown1
          clear en en' em er ez et hx' hdd1 hdd2 hdd' hA hB
          have HB2 := Lib.hid hb2
          have HO2 := Lib.hid hown1
          clear hb2 hown1
          go_wp2_with fail
          go_roundw
          case rel => exact ⟨d', q ++ [(⟨x, z, u⟩ : Ent)], t + z, rfl, by go_num, hdq, Lib.hid HW.out.2, htz, HT, HO2.out, HB2.out⟩
          case measure =>
            have hdl := HDL.out
            simp only [lenStr]; omega)
    · have hd : bytesN d = [] := List.eq_nil_of_length_eq_zero (by rw [bytesN_length]; omega)
      have HN : Hid (entL (bytesN s) = some q) := Lib.hid (by rw [HE.out, hd, entL_nil]; simp)
      clear hd
      obtain ⟨A2, c2, rfl, _, _⟩ := Own.shape hown
      go_wp2_with fail
      go_ret2
      refine ⟨_, _, rfl, ?_, hb⟩
      rw [HN.out]
      exact ⟨rfl, hown⟩
end Go.Proofs.Ytdnaifkcogadkaa
