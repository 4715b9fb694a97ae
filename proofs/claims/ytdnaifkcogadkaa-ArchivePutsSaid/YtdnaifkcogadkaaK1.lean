/- Memory: a slice of parts of the call's own, cut, cleared, an element laid; the closures that compare names. -/
import Derived.Test.YtdnaifkcogadkaaR7
import Derived.Laws.IdiomCopy
import Derived.Lib.SliceRun
namespace Go.Proofs.Ytdnaifkcogadkaa
open Go.RowKit

theorem zero38 (w : World) : (zeroValue 38).run Try.prog w = .ok (.agg #[.string ⟨#[]⟩, .string ⟨#[]⟩]) w := by kernel_rfl
def zsL (n : Nat) : List Value := (Builtin.zeroCells (Value.agg #[.string ⟨#[]⟩, .string ⟨#[]⟩]).cells n).toList
theorem zsL_length (n : Nat) : (zsL n).length = n * 2 := by simp [zsL, Builtin.zeroCells, Value.cells]
theorem zsL_one (n : Nat) : ∀ v ∈ zsL n, v.oneCell' = true := by
  intro v hv
  unfold zsL Builtin.zeroCells at hv
  rw [Array.toList_map, List.mem_map] at hv
  obtain ⟨i, _, rfl⟩ := hv
  rcases Nat.mod_two_eq_zero_or_one i with h | h
  · have : i % (Value.agg #[.string ⟨#[]⟩, .string ⟨#[]⟩]).cells.size = 0 := h
    rw [this]; rfl
  · have : i % (Value.agg #[.string ⟨#[]⟩, .string ⟨#[]⟩]).cells.size = 1 := h
    rw [this]; rfl
theorem run_clear (w : World) (ty : TypeId) (g o n c : Nat) (hn : 0 < n) (hc : ∀ j, j < n * 2 → (w.cell? ⟨g, o + j, none⟩).isSome = true) (hf : ∀ j, j < n * 2 → w.frozen? ⟨g, o + j, none⟩ = false) :
    (Builtin.clear_ #[22] ty #[.slice (some ⟨g, o, none⟩) n c]).run Try.prog w = .ok (.tuple #[]) (w.setCells g o (zsL n)) := by
  have hst := run_storeCells_cells (P := Try.prog) g o (zsL n) 0 w (by rw [zsL_length]; simpa using hc) (by rw [zsL_length]; simpa using hf) (zsL_one n)
  simp only [Nat.add_zero] at hst
  obtain ⟨m, rfl⟩ : ∃ m, n = m + 1 := ⟨n - 1, by omega⟩
  unfold zsL at hst ⊢
  simp [Builtin.clear_, run_underlying Try.underlying22, zero38, hst]

def setL (xs : List Value) : Nat → List Value → List Value
  | _, [] => xs
  | o, v :: r => setL (xs.set o v) (o + 1) r
theorem setL_take : ∀ (vs xs : List Value) (o m : Nat), m ≤ o → (setL xs o vs).take m = xs.take m
  | [], _, _, _, _ => rfl
  | v :: r, xs, o, m, h => by
    unfold setL
    rw [setL_take r (xs.set o v) (o + 1) m (by omega), List.take_set_of_le h]
theorem owns_setCells {base n cap g : Nat} : ∀ (vs : List Value) (o : Nat) (w : World) (xs : List Value), w.ownsRow base 38 2 (.slice (some ⟨g, 0, none⟩) n cap) n xs → (w.setCells g o vs).ownsRow base 38 2 (.slice (some ⟨g, 0, none⟩) n cap) n (setL xs o vs)
  | [], _, _, _, h => h
  | v :: r, o, w, xs, h => by
    unfold World.setCells setL
    exact owns_setCells r (o + 1) _ _ (h.stored o v).1
theorem below_setCells {B g : Nat} (hg : B ≤ g) {w0 : World} : ∀ (vs : List Value) (o : Nat) (w : World), Below B w0 w → Below B w0 (w.setCells g o vs)
  | [], _, _, h => h
  | v :: r, o, w, h => by
    unfold World.setCells
    exact below_setCells hg r (o + 1) _ (h.setCell hg v)
theorem owns_cut {w : World} {base n cap g : Nat} {xs : List Value} (h : w.ownsRow base 38 2 (.slice (some ⟨g, 0, none⟩) n cap) n xs) (i : Nat) (hi : i ≤ n) :
    w.ownsRow base 38 2 (.slice (some ⟨g, 0, none⟩) i cap) i (xs.take (i * 2)) := by
  obtain ⟨hl, hv⟩ := h
  refine ⟨by rw [List.length_take, hl]; omega, ?_⟩
  rcases hv with ⟨hv, _⟩ | ⟨g', cap', cur, hv, hb, hg, hnc, hm, hs, ht⟩
  · simp at hv
  · simp only [Value.slice.injEq, Option.some.injEq, Addr.mk.injEq, and_true, true_and] at hv
    obtain ⟨rfl, rfl⟩ := hv
    refine .inr ⟨g, cap, cur, rfl, hb, hg, by omega, hm, hs, ?_⟩
    rw [← ht, List.take_take, Nat.min_eq_left (by omega)]
section
variable {w : World} {base n cap g : Nat} {A : Option Addr} {F R l : List Prt}
theorem OwnP.num (h : OwnP w base (.slice A n cap) l) : n = l.length := by
  have h' : w.ownsRow base 38 2 (.slice A n cap) l.length (l.flatMap encP) := h
  rcases h'.2 with ⟨hv, hn⟩ | ⟨g', cap', cur, hv, _⟩
  · simp only [Value.slice.injEq] at hv; omega
  · simp only [Value.slice.injEq] at hv; exact hv.2.1
theorem OwnP.raw (h : OwnP w base (.slice A n cap) l) : w.ownsRow base 38 2 (.slice A n cap) n (l.flatMap encP) := by
  have e := OwnP.num h
  have h' : w.ownsRow base 38 2 (.slice A n cap) l.length (l.flatMap encP) := h
  rw [← e] at h'
  exact h'
theorem OwnP.get (h : OwnP w base (.slice A n cap) l) (k : Nat) (x : Prt) (hk : l[k]? = some x) :
    ∃ g, A = some ⟨g, 0, none⟩ ∧ base ≤ g ∧ g < w.heap.size ∧ w.cell? ⟨g, k * 2, none⟩ = some (.string x.1) ∧ w.cell? ⟨g, k * 2 + 1, none⟩ = some (.string x.2) ∧ (∀ j, w.frozen? ⟨g, j, none⟩ = false) := by
  have h' := OwnP.raw h
  rcases id h'.2 with ⟨hv, hn⟩ | ⟨g, cap, cur, hv, hb, hg, _⟩
  · have := OwnP.num h
    have : l = [] := List.eq_nil_of_length_eq_zero (by omega)
    subst this
    simp at hk
  · simp only [Value.slice.injEq] at hv
    obtain ⟨rfl, _, rfl⟩ := hv
    have hc := fun j u (hj : (encP x)[j]? = some u) => h'.cells (g := g) rfl (k * 2 + j) u (flatMap_get encP_length l k x hk j u hj)
    simp only [addr_add, Nat.zero_add] at hc
    exact ⟨g, rfl, hb, lt_of_block hg, hc 0 _ rfl, hc 1 _ rfl, fun j => h'.frozenAt j⟩
theorem OwnP.put {y0 : Prt} (h : OwnP w base (.slice (some ⟨g, 0, none⟩) n cap) (F ++ y0 :: R)) (hg : base ≤ g) (x : Prt) :
    OwnP ((w.setCell ⟨g, F.length * 2, none⟩ (.string x.1)).setCell ⟨g, F.length * 2 + 1, none⟩ (.string x.2)) base (.slice (some ⟨g, 0, none⟩) n cap) (F ++ x :: R) := by
  have hn := OwnP.num h
  have h1 := ((OwnP.raw h).stored (F.length * 2) (.string x.1)).1
  have h2 := (h1.stored (F.length * 2 + 1) (.string x.2)).1
  have e : (((F ++ y0 :: R).flatMap encP).set (F.length * 2) (.string x.1)).set (F.length * 2 + 1) (.string x.2) = (F ++ x :: R).flatMap encP := by
    rw [List.flatMap_append, List.flatMap_append, List.set_append_right _ _ (by rw [flatMap_length encP_length]; omega), List.set_append_right _ _ (by rw [flatMap_length encP_length]; omega), flatMap_length encP_length, List.flatMap_cons, List.flatMap_cons]
    have e1 : F.length * 2 - F.length * 2 = 0 := by omega
    have e2 : F.length * 2 + 1 - F.length * 2 = 1 := by omega
    rw [e1, e2]
    rfl
  rw [e] at h2
  have el : n = (F ++ x :: R).length := by simpa using hn
  unfold OwnP Own
  rw [el] at h2 ⊢
  exact h2
/-- The part behind is cleared, the slice cut. -/
theorem OwnP.cleared (h : OwnP w base (.slice (some ⟨g, 0, none⟩) n cap) (F ++ R)) (vs : List Value) : OwnP (w.setCells g (F.length * 2) vs) base (.slice (some ⟨g, 0, none⟩) F.length cap) F := by
  have hn := OwnP.num h
  have h1 := owns_cut (owns_setCells vs (F.length * 2) w _ (OwnP.raw h)) F.length (by rw [hn]; simp)
  rw [setL_take _ _ _ _ (Nat.le_refl _), List.flatMap_append, List.take_left' (flatMap_length encP_length F)] at h1
  exact h1
theorem OwnP.spare (h : OwnP w base (.slice (some ⟨g, 0, none⟩) n cap) l) : (∀ j, j < n * 2 → (w.cell? ⟨g, j, none⟩).isSome = true) ∧ (∀ j, w.frozen? ⟨g, j, none⟩ = false) := by
  have h' := OwnP.raw h
  refine ⟨fun j hj => ?_, fun j => h'.frozenAt j⟩
  have hlen : (l.flatMap encP).length = n * 2 := h'.1
  have hc := h'.cells (g := g) rfl j ((l.flatMap encP)[j]'(by omega)) (by simp)
  rw [addr_add, Nat.zero_add] at hc
  rw [hc]; rfl
end

def prN (nm : ByteArray) (x : Prt) : Bool := x.1.toList == nm.toList
theorem prN_iff (nm : ByteArray) (x : Prt) : prN nm x = true ↔ x.1 = nm := by
  unfold prN
  rw [beq_iff_eq]
  exact ⟨toList_inj, fun h => by rw [h]⟩
set_option maxRecDepth 100000 in
theorem clo48 (x : Prt) (nm : ByteArray) (B : Nat) (w : World) (hB : w.cell? ⟨B, 0, none⟩ = some (.string nm)) :
    Calls Try.prog 48 #[.agg #[.string x.1, .string x.2], .pointer (some ⟨B, 0, none⟩)] w fun e w' => e = .returned (.bool (prN nm x)) ∧ Below w.heap.size w w' := by
  have hne : B < w.heap.size := World.block_lt_of_cell? _ _ hB
  obtain ⟨x0, x1⟩ := x
  unfold prN
  go_enter Try.func48, Try.ntmps48
  go_wp2_with fail
  go_ret
  exact ⟨rfl, (Below.refl _ _).alloc (Nat.le_refl _) _⟩
set_option maxRecDepth 100000 in
theorem clo49 (x : Prt) (nm d : ByteArray) (B : Nat) (w : World) (hB : BoxP w B nm d) :
    Calls Try.prog 49 #[.agg #[.string x.1, .string x.2], .pointer (some ⟨B, 0, none⟩)] w fun e w' => e = .returned (.bool (prN nm x)) ∧ Below w.heap.size w w' := by
  have hB0 := hB.c0
  have hne : B < w.heap.size := World.block_lt_of_cell? _ _ hB0
  obtain ⟨x0, x1⟩ := x
  unfold prN
  go_enter Try.func49, Try.ntmps49
  go_wp2_with fail
  go_ret
  exact ⟨rfl, (Below.refl _ _).alloc (Nat.le_refl _) _⟩
end Go.Proofs.Ytdnaifkcogadkaa
