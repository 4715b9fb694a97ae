/- Walks: slices.Values, AppendSeq, Collect over a slice of parts. -/
import Derived.RangeFuncNested
import Derived.RangeFuncBound
import Derived.RangeFuncCalls
import Derived.RangeFuncLeaves
import Derived.Shelf.Abstract
import Derived.Shelf.RegionOpen
import Derived.WalkKit
import Derived.OwnWalkIn
import Derived.TacticsInMore
import Derived.LoopNIn
import Derived.LoopIn
import Derived.RangeFuncBox
import Derived.Maps.AppendAt
import Derived.Test.YtdnaifkcogadkaaC3
namespace Go.Proofs.Ytdnaifkcogadkaa
open Go.RowKit Go.Shelf
attribute [local go_sem] Oper.semAt_some

def encP (p : Prt) : List Value := [.string p.1, .string p.2]
theorem encP_length (p : Prt) : (encP p).length = 2 := rfl
abbrev Parts := Sl encP 2
abbrev OwnP := Own encP 2 38
/-- What a round of a loop reads of part k. -/
def PartAt (w : World) (B : Nat) (A : Option Addr) (l : List Prt) : Prop :=
  ∀ k (h : k < l.length), ∃ b o, A = some ⟨b, o, none⟩ ∧ b < B ∧ w.cell? ⟨b, o + k * 2, none⟩ = some (.string l[k].1) ∧ w.cell? ⟨b, o + k * 2 + 1, none⟩ = some (.string l[k].2)
theorem Sl.part {w : World} {B : Nat} {v : Value} {l : List Prt} (h : Sl encP 2 w B v l) : ∃ A c, v = .slice A l.length c ∧ l.length ≤ c ∧ c ≤ 9223372036854775807 ∧ PartAt w B A l := by
  obtain ⟨A, c, rfl, h1, h2, h3⟩ := h
  refine ⟨A, c, rfl, h1, h2, fun k hk => ?_⟩
  obtain ⟨b, o, rfl, hb, hc⟩ := h3 (by omega)
  have hx : l[k]? = some l[k] := by simp
  exact ⟨b, o, rfl, hb, hc k l[k] hx 0 _ rfl, hc k l[k] hx 1 _ rfl⟩
theorem PartAt.below {w w' : World} {B : Nat} {A : Option Addr} {l : List Prt} (h : PartAt w B A l) (hb : Below B w w') : PartAt w' B A l := by
  intro k hk
  obtain ⟨b, o, rfl, hbB, h1, h2⟩ := h k hk
  exact ⟨b, o, rfl, hbB, (hb.cell (p := ⟨b, o + k * 2, none⟩) hbB).trans h1, (hb.cell (p := ⟨b, o + k * 2 + 1, none⟩) hbB).trans h2⟩

theorem abides_alloc {β : Type} {B : Nat} {J : β → World → Prop} (h : AbidesFrom B J) {s : β} {W : World} (hs : J s W) (o : Obj) : J s (W.alloc o) :=
  h s W _ none hs (World.grownBy_alloc W o none) (fun r e => by cases e)
def encV (x : Prt) : Array Value := #[.agg #[.string x.1, .string x.2]]

set_option maxRecDepth 100000 in
set_option maxHeartbeats 2000000 in
theorem values1_in (F : Fence) (n : Nat) (h52 : F.fn 52) (hro : F.round = none) (hn : 1 ≤ n) (l n₀ Bv : Nat) (A : Option Addr) (c : Nat) (ps : List Prt) (J Jx : List Prt → World → Prop) (W : World) (hJ : AbidesFrom W.heap.size J)
    (hY : ∀ pre x W1, J pre W1 → pre.length < ps.length → YieldAt F (n - 1) Try.prog l (encV x) W1 fun e W' =>
      (e = .returned (.bool true) ∧ J (pre ++ [x]) W' ∧ Below n₀ W1 W') ∨ (e = .returned (.bool false) ∧ Jx (pre ++ [x]) W'))
    (hn0 : n₀ ≤ W.heap.size) (hbox : W.cell? ⟨Bv, 0, none⟩ = some (.slice A ps.length c)) (hlc : ps.length ≤ c) (hc : c ≤ 9223372036854775807) (hP : PartAt W n₀ A ps) (h0 : J [] W) :
    CallsIn F n Try.prog 52 #[.func (.yield l) #[] #[], .pointer (some ⟨Bv, 0, none⟩)] W fun e W' => (∃ v, e = .returned v) ∧
      ((∃ ys, ys = ps ∧ J ys W') ∨ (∃ pre, pre <+: ps ∧ Jx pre W')) := by
  cases F with | _ Ff Fd Fal Fr =>
  have hFr : Fr = none := hro
  subst hFr
  have HP := Lib.hid hP
  have HJA := Lib.hid hJ
  have HY := Lib.hid hY
  clear hP hJ hY
  refine callsIn_of_wp Try.func52 rfl h52 ?_ hro
  simp only [Try.ntmps52, List.size_toArray, List.length_cons, List.length_nil, Nat.reduceAdd, Nat.reduceSub, Array.replicate_succ, Array.replicate_zero, List.push_toArray, List.append_toArray, List.nil_append, List.cons_append]
  gi_wp2
  gi_loopw [7] (fun iv wr => ∃ k : Nat, k ≤ ps.length ∧ iv = .int .i64 k ∧ Hid (J (ps.take k) wr) ∧ Below n₀ W wr ∧ W.heap.size ≤ wr.heap.size) (fun iv _ => ps.length - (intOf iv).toNat)
  case atStart => exact ⟨0, Nat.zero_le _, rfl, Lib.hid h0, Below.refl _ _, Nat.le_refl _⟩
  case round =>
    obtain ⟨k, hk, rfl, HJ, hb, hsz⟩ := hrel
    by_cases hlt : k < ps.length
    · obtain ⟨b, o, rfl, hbB, g1, g2⟩ := (HP.out.below hb) k hlt
      have hbW : b < wr.heap.size := by omega
      have HT : Hid (ps.take k ++ [ps[k]] = ps.take (k + 1)) := Lib.hid (List.take_succ_eq_append_getElem hlt).symm
      obtain ⟨x, hx⟩ : ∃ x, x = ps[k] := ⟨_, rfl⟩
      rw [← hx] at g1 g2 HT
      clear hx
      obtain ⟨x0, x1⟩ := x
      simp only at g1 g2
      have J1 := abides_alloc HJA.out HJ.out (.cells #[.string x0, .string x1] 38)
      obtain ⟨fn, tmps, assign, body, hy, hR⟩ := HY.out (ps.take k) (x0, x1) _ J1 (by rw [List.length_take]; omega)
      simp only [encV] at hy
      have hb1 := hb.alloc (show n₀ ≤ wr.heap.size by omega) (.cells #[.string x0, .string x1] 38)
      gi_wp2_with fail
      refine hR.mono ?_
      rintro e W3 (⟨rfl, hJ3, hk3⟩ | ⟨rfl, hJx3⟩)
      · have hz3 := hk3.size
        have hb3 := hb1.trans hk3
        have HJ3 := Lib.hid hJ3
        have hz4 : W.heap.size ≤ W3.heap.size := by rw [World.size_alloc] at hz3; omega
        clear hJ3
        gi_wp2_with fail
        go_roundw
        case rel => exact ⟨k + 1, by omega, by go_num, Lib.hid (by rw [← HT.out]; exact HJ3.out), hb3, hz4⟩
        case measure => simp [intOf]; omega
      · gi_wp2_with fail
        refine bodyPost_ret (results_none rfl _ _ _) rfl ?_
        have hfin : ps.take k ++ [(x0, x1)] <+: ps := by rw [HT.out]; exact List.take_prefix _ _
        first | exact ⟨⟨_, rfl⟩, .inr ⟨_, hfin, hJx3⟩⟩
    · have HT : Hid (ps.take k = ps) := Lib.hid (List.take_of_length_le (by omega))
      gi_wp2_with fail
      go_end0
      have hfin : J ps wr := by rw [← HT.out]; exact HJ.out
      first | exact ⟨⟨_, rfl⟩, .inl ⟨_, rfl, hfin⟩⟩ | exact ⟨⟨_, rfl⟩, .inl hfin⟩

theorem values_stops (F : Fence) (n : Nat) (h52 : F.fn 52) (hro : F.round = none) (hn : 1 ≤ n) (n₀ Bv : Nat) (A : Option Addr) (c : Nat) (ps : List Prt) (w : World) (hn0 : n₀ ≤ w.heap.size) (hBv : Bv < w.heap.size)
    (hbox : w.cell? ⟨Bv, 0, none⟩ = some (.slice A ps.length c)) (hlc : ps.length ≤ c) (hc : c ≤ 9223372036854775807) (hP : PartAt w n₀ A ps) :
    SeqStopsK F n Try.prog 52 #[.pointer (some ⟨Bv, 0, none⟩)] encV (Below n₀) (fun ys => ys = ps) (fun pre => pre <+: ps) ps.length w :=
  fun l J Jx W hW hJ _ hY h0 => values1_in F n h52 hro hn l n₀ Bv A c ps J Jx W hJ hY (Nat.le_trans hn0 hW.size) ((hW.cell (p := ⟨Bv, 0, none⟩) hBv).trans hbox) hlc hc (hP.below (hW.mono hn0)) h0
theorem cells_two (W : World) (x : Prt) : ∀ (j : Nat) (u : Value), (encP x)[j]? = some u → (W.alloc (.cells (encP x).toArray 38)).cell? ((⟨W.heap.size, 0, none⟩ : Addr).add j) = some u := fun j u hj => by
  rw [addr_add, Nat.zero_add]
  exact cells_new W (encP x) 38 j u hj
theorem info38 : (Try.prog.info? 38).map (fun i => (i.zero, i.size, i.bytes)) = some (some (.agg #[.string ⟨#[]⟩, .string ⟨#[]⟩]), 2, 32) := by kernel_rfl

set_option maxRecDepth 100000 in
set_option maxHeartbeats 4000000 in
theorem appendSeq_any (Bv : Nat) (A : Option Addr) (c : Nat) (ps : List Prt) (w : World) (hBv : Bv < w.heap.size)
    (hbox : w.cell? ⟨Bv, 0, none⟩ = some (.slice A ps.length c)) (hlc : ps.length ≤ c) (hc : c ≤ 9223372036854775807) (hP : PartAt w w.heap.size A ps) (hlen : ps.length ≤ 1048576) :
    Calls Try.prog 57 #[.slice none 0 0, .func (.func 52) #[] #[.pointer (some ⟨Bv, 0, none⟩)]] w fun e w' => ∃ v, e = .returned v ∧ OwnP w' w.heap.size v ps ∧ Below w.heap.size w w' := by
  have HP := Lib.hid hP
  clear hP
  obtain ⟨i0, hi, hz0, hz1, hz2⟩ := info_parts info38
  refine (callsIn_wide (n := 9)).1 ?_
  refine callsIn_of_wp_marks Try.func57 rfl trivial ?_ rfl
  simp only [Try.ntmps57, List.size_toArray, List.length_cons, List.length_nil, Nat.reduceAdd, Nat.reduceSub, Array.replicate_succ, Array.replicate_zero, List.push_toArray, List.append_toArray, List.nil_append, List.cons_append]
  gi_wp2
  have bO := Boxed.new w 22 (.slice none 0 0)
  have hB0 : Below w.heap.size w (w.alloc (.cells #[.slice none 0 0] 22)) := (Below.refl _ w).alloc (Nat.le_refl _) _
  have hbox0 := cell_over hbox hB0
  have hz0' : (w.alloc (.cells #[.slice none 0 0] 22)).heap.size = w.heap.size + 1 := by simp
  obtain ⟨W0, hW0⟩ : ∃ W0, W0 = w.alloc (.cells #[.slice none 0 0] 22) := ⟨_, rfl⟩
  rw [← hW0] at bO hB0 hbox0 hz0' ⊢
  clear hW0
  refine wpIn_rangeFunc_ownH rfl (by omega) (gf := 52) (lb := #[.pointer (some ⟨Bv, 0, none⟩)]) rfl trivial (enters_of Try.func52 (by kernel_rfl) rfl)
    (values_stops Fence.wide 8 trivial rfl (by omega) w.heap.size Bv A c ps W0 (by omega) (by omega) hbox0 hlc hc (HP.out.below hB0))
    belowK_t (belowK_b (by omega)) (Below.refl _ _) (fun _ => rfl)
    (fun pre W => (∃ v, Boxed W w.heap.size 22 v ∧ W.ownsRow w.heap.size 38 2 v pre.length (pre.flatMap encP) ∧ True) ∧ Below w.heap.size w W)
    (fun _ _ _ => False)
    (OwnFrom.and (Own.from (holdsRow_own w.heap.size w.heap.size 22 38 2 (fun pre => pre.length) (fun pre : List Prt => pre.flatMap encP) (fun _ _ => True)) _) (ownFrom_below (Nat.le_refl _) (by omega)))
    (fun _ _ _ _ _ hs _ _ => hs)
    ⟨⟨_, bO, World.ownsRow_nil _ _ _ _, trivial⟩, hB0⟩
    (fun x a' W => ∃ Bx, w.heap.size < Bx ∧ W.heap[Bx]? = some (.cells #[.string x.1, .string x.2] 38 (0, 0)) ∧ a' = { tmps := #[.slice none 0 0, .func (.func 52) #[] #[.pointer (some ⟨Bv, 0, none⟩)], .pointer (some ⟨w.heap.size, 0, none⟩), undef, .slice none 0 0, .pointer (some ⟨Bx, 0, none⟩), .func (.func 52) #[] #[.pointer (some ⟨Bv, 0, none⟩)], .agg #[.string x.1, .string x.2], undef, undef, undef, undef, undef], defers := [] })
    (fun x a' _ X Y row hs hg hr => by
      obtain ⟨Bx, h1, h2, h3⟩ := hs
      refine ⟨Bx, h1, (hg.block Bx (Array.getElem?_eq_some_iff.1 h2).1 (fun e => ?_)).trans h2, h3⟩
      obtain ⟨_, o, ho, hc⟩ := hr Bx e.symm
      rw [h2] at ho
      injection ho with ho
      subst ho
      simp [Obj.isCells] at hc)
    ?assign ?body ?done ?stop
  case assign =>
    rintro l pre x W K ⟨⟨v, bv, hrow, ht⟩, hB1⟩ hK
    simp only [encV]
    gi_wp2
    exact hK _ _ ((KeepsOthers.alloc _ _).from _) ((Below.refl _ W).alloc hB1.size _) ⟨⟨v, bv.alloc _, hrow.alloc _, ht⟩, hB1.alloc hB1.size _⟩ ⟨W.heap.size, bv.lt, heap_alloc_new _ _, rfl⟩
  case body =>
    rintro l pre x a' W hl ⟨r, hr⟩ ⟨⟨v, bv, hrow, ht⟩, hB1⟩ ⟨Bx, hBx, bX, rfl⟩ hlt
    obtain ⟨x0, x1⟩ := x
    simp only at bX
    have c0 : W.cell? ⟨Bx, 0, none⟩ = some (.string x0) := blk_cell bX 0
    have c1 : W.cell? ⟨Bx, 1, none⟩ = some (.string x1) := blk_cell bX 1
    have cv := bv.cell
    have hBz := hB1.size
    gi_wp2_with (gi_at_builtin; refine wpListIn_append_own _ rfl _ _ 22 rfl w.heap.size 38 i0 _ 2 32 Try.underlying22 hi hz0 hz1 hz2 rfl (by decide) _ _ _ rfl (hrow.alloc _) ⟨W.heap.size, 0, none⟩ 1 1 (encP (x0, x1)) rfl rfl (cells_two _ _) (by simp [encP, Value.oneCell']) (by unfold maxLen; omega) (by omega) (by simp; omega) ?_; intro v' w1 hown' hgrow _; obtain ⟨g', cap', rfl⟩ := ownsRow_succ hown'; obtain ⟨hv1, hv2, hr2, hk2, hb2⟩ := bv.appended (by decide) hrow hBz (Nat.le_refl _) hown' hgrow; have hc1 := hv1.cell; have hf1 := hv1.frozen)
    exact ⟨hk2.from _, hb2, ⟨⟨_, hv2, by rw [List.length_append, List.flatMap_append]; simpa using hr2⟩, hB1.trans hb2⟩⟩
  case done =>
    rintro D zs W hD rfl ⟨⟨v, bv, hrow, ht⟩, hB1⟩ hK
    have cv := bv.cell
    gi_wp2
    refine ⟨by simp, .inl ⟨_, _, rfl, run_takeDeferred hK, ?_⟩⟩
    refine ⟨_, results_tmp rfl _ _ _, v, rfl, ?_, ?_⟩
    · exact ownsRow_putObj hrow _ hK rfl
    · exact hB1.trans (belowK_b (w := w) (Nat.le_refl _) W D _ _ (by omega) hK rfl rfl)
  case stop =>
    rintro D c pre W _ _ h _
    exact h.elim

set_option maxHeartbeats 1000000 in
theorem collect_any (Bv : Nat) (A : Option Addr) (c : Nat) (ps : List Prt) (w : World) (hBv : Bv < w.heap.size)
    (hbox : w.cell? ⟨Bv, 0, none⟩ = some (.slice A ps.length c)) (hlc : ps.length ≤ c) (hc : c ≤ 9223372036854775807) (hP : PartAt w w.heap.size A ps) (hlen : ps.length ≤ 1048576) :
    Calls Try.prog 50 #[.func (.func 52) #[] #[.pointer (some ⟨Bv, 0, none⟩)]] w fun e w' => ∃ v, e = .returned v ∧ OwnP w' w.heap.size v ps ∧ Below w.heap.size w w' := by
  have H := Lib.hid (appendSeq_any Bv A c ps w hBv hbox hlc hc hP hlen)
  clear hbox hP
  go_enter Try.func50, Try.ntmps50
  go_wp2_with fail
  refine H.out.mono ?_
  rintro e w1 ⟨v, rfl, hown, hb⟩
  obtain ⟨A, c, rfl, _, _⟩ := Own.shape hown
  go_wp2_with fail
  go_ret
  exact ⟨_, rfl, hown, hb⟩
set_option maxHeartbeats 1000000 in
theorem values_any (A : Option Addr) (n c : Nat) (w : World) : Calls Try.prog 36 #[.slice A n c] w fun e w' => e = .returned (.func (.func 52) #[] #[.pointer (some ⟨w.heap.size, 0, none⟩)]) ∧ w' = w.alloc (.cells #[.slice A n c] 22) := by
  go_enter Try.func36, Try.ntmps36
  go_wp2_with fail
  go_ret
  exact ⟨rfl, rfl⟩
end Go.Proofs.Ytdnaifkcogadkaa
