/- Walk: slices.AppendSeq and slices.Collect over the regions' iterator. -/
import Derived.Test.YtbpegoekjlehcaaW16
namespace Go.Proofs.Ytbpegoekjlehcaa
open Go.RowKit Go.Shelf
attribute [local go_sem] Oper.semAt_some

def encR (r : Reg) : List Value := [.int .i64 r.1, .int .i64 r.2.1, .int .i64 r.2.2.1, .int .i64 r.2.2.2.1, .bool r.2.2.2.2]
theorem encR_length (r : Reg) : (encR r).length = 5 := rfl
theorem info60 : (Try.prog.info? 60).map (fun i => (i.zero, i.size, i.bytes)) = some (some (.agg #[.int .i64 0, .int .i64 0, .int .i64 0, .int .i64 0, .bool false]), 5, 40) := by kernel_rfl

theorem cells_five (W : World) (x : Reg) : ∀ (j : Nat) (u : Value), (encR x)[j]? = some u → (W.alloc (.cells (encR x).toArray 60)).cell? ((⟨W.heap.size, 0, none⟩ : Addr).add j) = some u := fun j u hj => by
  rw [addr_add, Nat.zero_add]
  exact cells_new W (encR x) 60 j u hj
/-- Behind 'out = append(out, x)' into a box: what the iterator needs lies as it lay. -/
theorem kpN_append {n₀ : Nat} {W w1 : World} {B : Nat} {v v' : Value} {k : Nat} {xs : List Value} {tmp : Obj} (hv : Boxed W B 56 v) (hrow : W.ownsRow n₀ 60 5 v k xs) (hB : n₀ ≤ B) (hn : n₀ ≤ W.heap.size)
    (hgrow : (W.alloc tmp).grownBy w1 v.ownBlock) : KpN n₀ W (w1.setCell ⟨B, 0, none⟩ v') := by
  have h0 : KpN n₀ W (W.alloc tmp) := (KpN.refl n₀ W).alloc hn tmp
  have hb1 : Boxed w1 B 56 v := (hv.alloc tmp).kept hgrow (hv.not_row (by decide) hrow)
  have h1 : KpN n₀ W w1 := by
    rcases (hrow.alloc tmp).2 with ⟨rfl, _⟩ | ⟨g, cap, cur, rfl, hg, hgb, _⟩
    · refine ⟨h0.1.trans ((Below.refl n₀ _).grown hgrow (by simp; omega) (fun k e => by simp [Value.ownBlock] at e)), fun i cs t z ht e => ?_⟩
      have e1 := h0.2 i cs t z ht e
      exact (hgrow.block i (Array.getElem?_eq_some_iff.1 e1).1 (by simp [Value.ownBlock])).trans e1
    · exact h0.grown (g := g) (by simpa [Value.ownBlock] using hgrow) hgb (by rintro (h | h | h) <;> exact absurd h (by decide)) hg
  exact h1.grown (grownBy_setCell' w1 B v') hb1 (by rintro (h | h | h) <;> exact absurd h (by decide)) hB

set_option maxRecDepth 100000 in
set_option maxHeartbeats 4000000 in
theorem appendSeq_any (Ba Bb Bp : Nat) (A A' A'' : Option Addr) (na nb ca cb cp : Nat) (p : List Tok) (w : World)
    (hX : BX w Ba Bb Bp (.slice A na ca) (.slice A' nb cb) (.slice A'' p.length cp)) (hpc : p.length ≤ cp) (hcpm : cp ≤ 9223372036854775807)
    (hP : TokAt w w.heap.size A'' p) (hI : Inc na nb p 0 0) (hna : na ≤ 1048576) (hnb : nb ≤ 1048576) :
    Calls Try.prog 45 #[.slice none 0 0, .func (.func 46) #[] #[.pointer (some ⟨Bp, 0, none⟩), .pointer (some ⟨Ba, 0, none⟩), .pointer (some ⟨Bb, 0, none⟩)]] w fun e w' => ∃ v, e = .returned v ∧
      Own encR 5 60 w' w.heap.size v (regs na nb (p.length + 1) p 0 0) ∧ Below w.heap.size w w' := by
  have hpl : p.length ≤ 1048576 := by have := hI.len; omega
  have HI := Lib.hid hI
  have HP := Lib.hid hP
  clear hI hP
  obtain ⟨i0, hi, hz0, hz1, hz2⟩ := info_parts info60
  refine (callsIn_wide (n := 9)).1 ?_
  refine callsIn_of_wp_marks Try.func45 rfl trivial ?_ rfl
  simp only [Try.ntmps45, List.size_toArray, List.length_cons, List.length_nil, Nat.reduceAdd, Nat.reduceSub, Array.replicate_succ, Array.replicate_zero, List.push_toArray, List.append_toArray, List.nil_append, List.cons_append]
  gi_wp2
  have bO := Boxed.new w 56 (.slice none 0 0)
  have hB0 : Below w.heap.size w (w.alloc (.cells #[.slice none 0 0] 56)) := (Below.refl _ w).alloc (Nat.le_refl _) _
  have hX0 := hX.alloc (.cells #[.slice none 0 0] 56)
  have hz0' : (w.alloc (.cells #[.slice none 0 0] 56)).heap.size = w.heap.size + 1 := by simp
  obtain ⟨W0, hW0⟩ : ∃ W0, W0 = w.alloc (.cells #[.slice none 0 0] 56) := ⟨_, rfl⟩
  rw [← hW0] at bO hB0 hX0 hz0' ⊢
  clear hW0
  refine wpIn_rangeFunc_ownH rfl (by omega) (gf := 46) (lb := #[.pointer (some ⟨Bp, 0, none⟩), .pointer (some ⟨Ba, 0, none⟩), .pointer (some ⟨Bb, 0, none⟩)]) rfl trivial (enters_of Try.func46 (by kernel_rfl) rfl)
    (iter_stops Fence.wide 8 trivial rfl (by omega) w.heap.size Ba Bb Bp A A' A'' na nb ca cb cp p W0 (by omega) hX0 hpc hcpm (HP.out.below hB0) HI.out hna hnb)
    KpN.trans (kpN_b (by omega)) (Below.refl _ _) (fun _ => rfl)
    (fun pre W => (∃ v, Boxed W w.heap.size 56 v ∧ W.ownsRow w.heap.size 60 5 v pre.length (pre.flatMap encR) ∧ True) ∧ Below w.heap.size w W)
    (fun _ _ _ => False)
    (OwnFrom.and (Own.from (holdsRow_own w.heap.size w.heap.size 56 60 5 (fun pre => pre.length) (fun pre : List Reg => pre.flatMap encR) (fun _ _ => True)) _) (ownFrom_below (Nat.le_refl _) (by omega)))
    (fun _ _ _ _ _ hs _ _ => hs)
    ⟨⟨_, bO, World.ownsRow_nil _ _ _ _, trivial⟩, hB0⟩
    (fun x a' W => ∃ Bx, w.heap.size < Bx ∧ W.heap[Bx]? = some (.cells #[.int .i64 x.1, .int .i64 x.2.1, .int .i64 x.2.2.1, .int .i64 x.2.2.2.1, .bool x.2.2.2.2] 60 (0, 0)) ∧ a' = { tmps := #[.slice none 0 0, .func (.func 46) #[] #[.pointer (some ⟨Bp, 0, none⟩), .pointer (some ⟨Ba, 0, none⟩), .pointer (some ⟨Bb, 0, none⟩)], .pointer (some ⟨w.heap.size, 0, none⟩), undef, .slice none 0 0, .pointer (some ⟨Bx, 0, none⟩), .func (.func 46) #[] #[.pointer (some ⟨Bp, 0, none⟩), .pointer (some ⟨Ba, 0, none⟩), .pointer (some ⟨Bb, 0, none⟩)], .agg #[.int .i64 x.1, .int .i64 x.2.1, .int .i64 x.2.2.1, .int .i64 x.2.2.2.1, .bool x.2.2.2.2], undef, undef, undef, undef, undef], defers := [] })
    (fun x a' _ X Y row hs hg hr => by
      obtain ⟨Bx, h1, h2, h3⟩ := hs
      refine ⟨Bx, h1, (hg.block Bx (Array.getElem?_eq_some_iff.1 h2).1 (fun e => ?_)).trans h2, h3⟩
      obtain ⟨_, o, ho, hc⟩ := hr Bx e.symm
      rw [h2] at ho
      injection ho with ho
      subst ho
      simp [Obj.isCells] at hc)
    ?assign ?body ?done ?stop
  case assign =>
    rintro l pre x W K ⟨⟨v, bv, hrow, ht⟩, hB1⟩ hK
    simp only [encG]
    gi_wp2
    exact hK _ _ ((KeepsOthers.alloc _ _).from _) ((KpN.refl _ W).alloc hB1.size _) ⟨⟨v, bv.alloc _, hrow.alloc _, ht⟩, hB1.alloc hB1.size _⟩ ⟨W.heap.size, bv.lt, heap_alloc_new _ _, rfl⟩
  case body =>
    rintro l pre x a' W hl ⟨r, hr⟩ ⟨⟨v, bv, hrow, ht⟩, hB1⟩ ⟨Bx, hBx, bX, rfl⟩ hlt
    obtain ⟨x0, x1, x2, x3, x4⟩ := x
    simp only at bX
    have c0 : W.cell? ⟨Bx, 0, none⟩ = some (.int .i64 x0) := blk_cell bX 0
    have c1 : W.cell? ⟨Bx, 1, none⟩ = some (.int .i64 x1) := blk_cell bX 1
    have c2 : W.cell? ⟨Bx, 2, none⟩ = some (.int .i64 x2) := blk_cell bX 2
    have c3 : W.cell? ⟨Bx, 3, none⟩ = some (.int .i64 x3) := blk_cell bX 3
    have c4 : W.cell? ⟨Bx, 4, none⟩ = some (.bool x4) := blk_cell bX 4
    have cv := bv.cell
    have hBz := hB1.size
    gi_wp2_with (gi_at_builtin; refine wpListIn_append_own _ rfl _ _ 56 rfl w.heap.size 60 i0 _ 5 40 Try.underlying56 hi hz0 hz1 hz2 rfl (by decide) _ _ _ rfl (hrow.alloc _) ⟨W.heap.size, 0, none⟩ 1 1 (encR (x0, x1, x2, x3, x4)) rfl rfl (cells_five _ _) (by simp [encR, Value.oneCell']) (by unfold maxLen; omega) (by omega) (by simp; omega) ?_; intro v' w1 hown' hgrow _; obtain ⟨g', cap', rfl⟩ := ownsRow_succ hown'; obtain ⟨hv1, hv2, hr2, hk2, hb2⟩ := bv.appended (by decide) hrow hBz (Nat.le_refl _) hown' hgrow; have hc1 := hv1.cell; have hf1 := hv1.frozen)
    exact ⟨hk2.from _, kpN_append bv hrow (Nat.le_refl _) hBz hgrow, ⟨⟨_, hv2, by rw [List.length_append, List.flatMap_append]; simpa using hr2⟩, hB1.trans hb2⟩⟩
  case done =>
    rintro D zs W hD rfl ⟨⟨v, bv, hrow, ht⟩, hB1⟩ hK
    have cv := bv.cell
    gi_wp2
    refine ⟨by simp, .inl ⟨_, _, rfl, run_takeDeferred hK, ?_⟩⟩
    refine ⟨_, results_tmp rfl _ _ _, v, rfl, ?_, ?_⟩
    · exact ownsRow_putObj hrow _ hK rfl
    · exact hB1.trans (belowK_b (w := w) (Nat.le_refl _) W D _ _ (by omega) hK rfl rfl)
  case stop =>
    rintro D c pre W _ _ h _
    exact h.elim

set_option maxHeartbeats 1000000 in
theorem collect_any (Ba Bb Bp : Nat) (A A' A'' : Option Addr) (na nb ca cb cp : Nat) (p : List Tok) (w : World)
    (hX : BX w Ba Bb Bp (.slice A na ca) (.slice A' nb cb) (.slice A'' p.length cp)) (hpc : p.length ≤ cp) (hcpm : cp ≤ 9223372036854775807)
    (hP : TokAt w w.heap.size A'' p) (hI : Inc na nb p 0 0) (hna : na ≤ 1048576) (hnb : nb ≤ 1048576) :
    Calls Try.prog 39 #[.func (.func 46) #[] #[.pointer (some ⟨Bp, 0, none⟩), .pointer (some ⟨Ba, 0, none⟩), .pointer (some ⟨Bb, 0, none⟩)]] w fun e w' => ∃ v, e = .returned v ∧
      Own encR 5 60 w' w.heap.size v (regs na nb (p.length + 1) p 0 0) ∧ Below w.heap.size w w' := by
  have H := Lib.hid (appendSeq_any Ba Bb Bp A A' A'' na nb ca cb cp p w hX hpc hcpm hP hI hna hnb)
  obtain ⟨T, hT⟩ : ∃ T, T = regs na nb (p.length + 1) p 0 0 := ⟨_, rfl⟩
  rw [← hT] at H ⊢
  clear hX hP hI hT
  go_enter Try.func39, Try.ntmps39
  go_wp2_with fail
  refine H.out.mono ?_
  rintro e w1 ⟨v, rfl, hown, hb⟩
  obtain ⟨A, c, rfl, _, _⟩ := hown.shape
  go_wp2_with fail
  go_ret
  exact ⟨_, rfl, hown, hb⟩
end Go.Proofs.Ytbpegoekjlehcaa
