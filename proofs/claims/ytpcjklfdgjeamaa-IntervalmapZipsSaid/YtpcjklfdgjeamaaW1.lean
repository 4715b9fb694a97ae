/- Words for runs and maps in memory; walks: the length, clones, the runs. -/
import Derived.Test.YtpcjklfdgjeamaaProg
import Derived.Test.YtpcjklfdgjeamaaLib3
import Derived.Test.YtpcjklfdgjeamaaPl
import Derived.Deep.QuietTactic
import Derived.BigQuiet
import Derived.Lib.SliceRun
namespace Go.Proofs.Ytpcjklfdgjeamaa
open Go.RowKit

def encR (r : Rn) : List Value := [.int .i64 r.1, .int .i64 r.2.1, .int .i64 r.2.2]
theorem encR_length (r : Rn) : (encR r).length = 3 := rfl
theorem encR_one (r : Rn) : ∀ u ∈ encR r, u.oneCell' = true := by
  intro u hu
  simp only [encR, List.mem_cons, List.not_mem_nil, or_false] at hu
  rcases hu with rfl | rfl | rfl <;> rfl
abbrev RunsV := Sl encR 3
abbrev OwnR := Own encR 3 31

theorem blk_cell {w : World} {g : Nat} {t : TypeId} {cs : Array Value} (h : w.heap[g]? = some (.cells cs t (0, 0))) (i : Nat) : w.cell? ⟨g, i, none⟩ = cs[i]? := cell_of_row w g i cs t (0, 0) h
theorem blk_free {w : World} {g : Nat} {t : TypeId} {cs : Array Value} (h : w.heap[g]? = some (.cells cs t (0, 0))) (i : Nat) : w.frozen? ⟨g, i, none⟩ = false := frozen_of_row w g i cs t h

/-- The elements' cells are numbers. -/
def AllInt {α : Type} (enc : α → List Value) : Prop := ∀ x, ∀ u ∈ enc x, ∃ k z, u = Value.int k z
theorem encR_int : AllInt encR := fun x u hu => by
  simp only [encR, List.mem_cons, List.not_mem_nil, or_false] at hu
  rcases hu with rfl | rfl | rfl <;> exact ⟨_, _, rfl⟩

/-- A map: one block with the slice of its runs. -/
def MapAt (w : World) (m : Nat) (R : List Rn) : Prop := ∃ v, w.heap[m]? = some (.cells #[v] 78 (0, 0)) ∧ RunsV w w.heap.size v R

section
variable {w w' : World} {m m' : Nat} {R R' : List Rn}
theorem MapAt.lt (h : MapAt w m R) : m < w.heap.size := by obtain ⟨v, h1, _⟩ := h; exact lt_of_block h1
theorem MapAt.below (h : MapAt w m R) (hb : Below w.heap.size w w') : MapAt w' m R := by
  obtain ⟨v, h1, h2⟩ := h
  exact ⟨v, (hb.block _ (lt_of_block h1)).trans h1, h2.over hb⟩
theorem MapAt.drewN (h : MapAt w m R) (n : Nat) : MapAt (w.drewN n) m R := h.below (below_drewN (Below.refl _ _) n)
/-- Numbers in a slice, beside a call that writes a map. -/
theorem Sl.besides {α : Type} {enc : α → List Value} {sz : Nat} {v : Value} {l : List α} (hi : AllInt enc) (h : Sl enc sz w w.heap.size v l) (hm : MapAt w m R) (hg : w.grownBy w' (some m)) : Sl enc sz w' w'.heap.size v l := by
  obtain ⟨A, c, rfl, h1, h2, h3⟩ := h
  refine ⟨A, c, rfl, h1, h2, fun hn => ?_⟩
  obtain ⟨b, o, rfl, hb, hc⟩ := h3 hn
  refine ⟨b, o, rfl, Nat.lt_of_lt_of_le hb hg.size, fun i x hx j u hu => ?_⟩
  have hcell := hc i x hx j u hu
  rw [← hcell]
  refine World.cell?_of_block (hg.block b hb ?_)
  intro e
  injection e with e
  subst e
  obtain ⟨mv, hm1, hm2⟩ := hm
  obtain ⟨A', c', rfl, _⟩ := hm2
  rw [blk_cell hm1] at hcell
  obtain ⟨k, z, rfl⟩ := hi x u (List.mem_of_getElem? hu)
  rcases Nat.eq_zero_or_pos (o + i * sz + j) with h0 | h0
  · rw [h0] at hcell; simp at hcell
  · rw [Array.getElem?_eq_none (by simp; omega)] at hcell
    cases hcell
theorem MapAt.besides (h : MapAt w m R) (h' : MapAt w m' R') (hg : w.grownBy w' (some m')) (hne : m ≠ m') : MapAt w' m R := by
  obtain ⟨v, h1, h2⟩ := h
  exact ⟨v, (hg.block _ (lt_of_block h1) (fun e => by injection e with e; exact hne e)).trans h1, h2.besides encR_int h' hg⟩
end

theorem endOf_snoc (o : List Rn) (r : Rn) (s : Int) : endOf s (o ++ [r]) = r.2.1 := by rw [endOf_append]; rfl

set_option maxHeartbeats 400000 in
theorem len_any (m : Nat) (R : List Rn) (w : World) (h : MapAt w m R) :
    Calls Try.prog 14 #[.pointer (some ⟨m, 0, none⟩)] w fun e w' => e = .returned (.int .i64 (endOf 0 R)) ∧ ∃ n, w' = w.drewN n := by
  obtain ⟨v, hm, A, c, rfl, hn, hc, hcell⟩ := h
  have h0 : w.cell? ⟨m, 0, none⟩ = some (.slice A R.length c) := blk_cell hm 0
  rcases nil_or_snoc R with rfl | ⟨o, r, rfl⟩
  · clear hm hcell
    go_enter Try.func14, Try.ntmps14
    go_wp2
    go_ret
    exact ⟨rfl, 0, rfl⟩
  · obtain ⟨n, hne⟩ : ∃ n, n = o.length := ⟨_, rfl⟩
    have hl : (o ++ [r]).length = n + 1 := by simp [hne]
    rw [hl] at h0 hn hcell
    obtain ⟨b, oo, rfl, hb, hcl⟩ := hcell (by omega)
    have h1 := hcl n r (by rw [hne]; simp) 1 _ rfl
    have HE := Lib.hid (endOf_snoc o r 0)
    have hc2 : c ≤ 9223372036854775807 := by unfold maxLen at hc; omega
    have hz : (((n + 1 : Nat) : Int) == 0) = false := by rw [beq_eq_false_iff_ne]; omega
    have hw : IntKind.i64.wrap (((n + 1 : Nat) : Int) - 1) = (n : Int) := by rw [IntWalk.i64_in _ (by omega)]; omega
    have hw2 : IntKind.i64.wrap ((n : Int) + 1 - 1) = (n : Int) := by rw [IntWalk.i64_in _ (by omega)]; omega
    clear hm hcell hcl hl hne
    go_enter Try.func14, Try.ntmps14
    go_wp2
    go_quiet (fail)
    go_wp2
    go_ret
    exact ⟨ret_int HE.out.symm, _, rfl⟩

theorem len_nil (w : World) : Calls Try.prog 14 #[.pointer none] w fun e w' => e = .returned (.int .i64 0) ∧ w = w' := by
  go_enter Try.func14, Try.ntmps14
  go_wp2
  go_ret
  exact ⟨rfl, rfl⟩

theorem info31 : (Try.prog.info? 31).map (fun i => (i.zero, i.size, i.bytes)) = some (some (.agg #[.int .i64 0, .int .i64 0, .int .i64 0]), 3, 24) := by kernel_rfl

set_option maxHeartbeats 400000 in
theorem clone_any (v : Value) (R : List Rn) (w : World) (h : RunsV w w.heap.size v R) (hl : R.length ≤ 2097152) :
    Calls Try.prog 35 #[v] w fun e w' => ∃ v', e = .returned v' ∧ OwnR w' w.heap.size v' R ∧ Below w.heap.size w w' := by
  obtain ⟨i0, hi, hz0, hz1, hz2⟩ := info_parts info31
  obtain ⟨A, c, rfl, hn, hc, hcell⟩ := id h
  have qT : ∀ (w : World) (a : Option Addr) (n c n' c' : Nat), (binOp .eql 28 (.slice a n c) (.slice none n' c')).run Try.prog w = .ok (.bool a.isNone) w := fun w a n c n' c' => Lib.run_eql_slice_nil w _ _ a n c n' c' Try.underlying28
  cases A with
  | none =>
    have hR : R = [] := by
      rcases Nat.eq_zero_or_pos R.length with h0 | h0
      · exact List.eq_nil_of_length_eq_zero h0
      · obtain ⟨b, o, e, _⟩ := hcell h0; cases e
    subst hR
    clear h hcell
    go_enter Try.func35, Try.ntmps35
    go_wp2
    go_ret
    exact ⟨_, rfl, Own.nil _ _, Below.refl _ _⟩
  | some ad =>
    clear hcell
    have hown := (Own.empty (enc := encR) (sz := 3) (E := 31) w w.heap.size (Nat.le_refl _))
    have H := Lib.hid (h.below ((Below.refl _ w).alloc (Nat.le_refl _) (.cells #[] 31)))
    clear h
    go_enter Try.func35, Try.ntmps35
    go_wp2_with (at_builtin; refine wpList_append_sl _ rfl _ _ 28 rfl w.heap.size 31 i0 _ 24 Try.underlying28 hi hz0 hz1 hz2 rfl (by decide) encR_length encR_one _ [] rfl hown w.heap.size _ R rfl H.out ?c1 ?c2 ?c3 ?_)
    case c1 => simp; omega
    case c2 => simp; omega
    case c3 => simp
    intro v' w1 hown1 hg
    go_wp2
    go_ret
    refine ⟨v', rfl, by simpa using hown1, ?_⟩
    exact ((Below.refl _ w).alloc (Nat.le_refl _) _).grown hg (by simp) (fun q hq => by simp [Value.ownBlock] at hq; omega)

end Go.Proofs.Ytpcjklfdgjeamaa
