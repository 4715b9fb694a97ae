/- The state of the table between two steps, and what each step makes of it. -/
import Derived.Test.YtbpegoekjlehcaaMem
import Derived.Test.YtbpegoekjlehcaaOpt
namespace Go.Proofs.Ytbpegoekjlehcaa
open Go.RowKit

def Aft (K : Int) (t j s : Nat) : Prop := K < (j : Int) ∨ ((j : Int) = K ∧ s < t)

/-- Row D and all below are known; of row D - 1 what stands behind place K, and t cells of place K. -/
def St (g : Int) (a b : List Tok) (w : World) (B wd P G Rw Bl D : Nat) (K : Int) (t : Nat) : Prop :=
  ∃ X Y C rx ry rc, Mem w B wd P G Rw Bl X Y C rx ry rc ∧ (D ≤ a.length → ∀ s j, s < 2 → j < wd → ry s j = oT g a b D j s) ∧
    (∀ s j, s < 2 → j < wd → Aft K t j s → rx s j = oT g a b (D - 1) j s) ∧
    (∀ i j s, i ≤ a.length → j < wd → s < 2 → (D ≤ i ∨ (i + 1 = D ∧ Aft K t j s)) → rc s (i * wd + j) = cT g a b i j s)

section
variable {g : Int} {a b : List Tok} {w w' : World} {B wd P G Rw Bl D : Nat} {K : Int} {t : Nat}
theorem St.over (h : St g a b w B wd P G Rw Bl D K t) (hb : Below w.heap.size w w') : St g a b w' B wd P G Rw Bl D K t := by
  obtain ⟨X, Y, C, rx, ry, rc, M, h1, h2, h3⟩ := h
  exact ⟨X, Y, C, rx, ry, rc, M.over hb, h1, h2, h3⟩
theorem St.start {X Y C : Nat → Nat} (hwd : wd = b.length + 1) (M : Mem w B wd P G Rw Bl X Y C (fun _ _ => 0) (fun _ _ => 0) (fun _ _ => 0)) :
    St g a b w B wd P G Rw Bl (a.length + 1) (b.length : Int) 0 :=
  ⟨X, Y, C, _, _, _, M, fun h => absurd h (by omega), fun s j _ hj h => by unfold Aft at h; omega, fun i j s hi hj hs h => by unfold Aft at h; omega⟩
theorem St.next (h : St g a b w B wd P G Rw Bl D K 2) : St g a b w B wd P G Rw Bl D (K - 1) 0 := by
  obtain ⟨X, Y, C, rx, ry, rc, M, h1, h2, h3⟩ := h
  refine ⟨X, Y, C, rx, ry, rc, M, h1, fun s j hs hj hA => h2 s j hs hj ?_, fun i j s hi hj hs hA => h3 i j s hi hj hs ?_⟩
  · unfold Aft at *; omega
  · unfold Aft at *; omega
/-- The swap of the rows, at a row's end. -/
theorem St.swap (hwd : wd = b.length + 1) {i : Nat} (hD : D = i + 1) (h : St g a b w B wd P G Rw Bl D (-1) 0) :
    ∃ X Y : Nat → Nat, w.heap[Rw]? = some (.cells #[sl (X 0) wd, sl (X 1) wd] 86 (0, 0)) ∧ w.heap[Bl]? = some (.cells #[sl (Y 0) wd, sl (Y 1) wd] 86 (0, 0)) ∧ Rw ≠ Bl ∧ B ≤ Rw ∧ B ≤ Bl ∧
    St g a b ((w.setCell ⟨Rw, 0, none⟩ (sl (Y 0) wd) |>.setCell ⟨Rw, 1, none⟩ (sl (Y 1) wd) |>.setCell ⟨Bl, 0, none⟩ (sl (X 0) wd)).setCell ⟨Bl, 1, none⟩ (sl (X 1) wd)) B wd P G Rw Bl i (b.length : Int) 0 := by
  subst hD
  obtain ⟨X, Y, C, rx, ry, rc, M, h1, h2, h3⟩ := h
  refine ⟨X, Y, M.hR, M.hL, M.nRL, M.bR, M.bL, Y, X, C, ry, rx, rc, M.swap, fun _ s j hs hj => h2 s j hs hj ?_, fun s j hs hj hA => ?_, fun i' j s hi hj hs hA => h3 i' j s hi hj hs ?_⟩
  · unfold Aft; omega
  · unfold Aft at hA; omega
  · unfold Aft at *; omega
/-- What a step reads, and what 'set' makes of it. -/
theorem St.step {i k : Nat} (hP : P = (a.length + 1) * wd) (h : St g a b w B wd P G Rw Bl (i + 1) (k : Int) t) (ht : t < 2) (hi : i ≤ a.length) (hk : k < wd) :
    ∃ (X Y C : Nat → Nat),
      w.heap[Rw]? = some (.cells #[sl (X 0) wd, sl (X 1) wd] 86 (0, 0)) ∧ w.heap[Bl]? = some (.cells #[sl (Y 0) wd, sl (Y 1) wd] 86 (0, 0)) ∧
      w.heap[G]? = some (.cells #[.int .i64 0, sl (C 0) P, sl (C 1) P, .int .i64 wd] 68 (0, 0)) ∧
      (i < a.length → ∀ s j, s < 2 → j < wd → w.cell? ⟨Y s, j, none⟩ = some (.int .i64 (oT g a b (i + 1) j s))) ∧
      (∀ s, s < 2 → k + 1 < wd → w.cell? ⟨X s, k + 1, none⟩ = some (.int .i64 (oT g a b i (k + 1) s))) ∧
      (∃ x, w.cell? ⟨X t, k, none⟩ = some x) ∧ w.frozen? ⟨X t, k, none⟩ = false ∧ (∃ y, w.cell? ⟨C t, i * wd + k, none⟩ = some y) ∧ w.frozen? ⟨C t, i * wd + k, none⟩ = false ∧
      X t ≠ G ∧ X t ≠ C t ∧ i * wd + k < P ∧ B ≤ X t ∧ B ≤ C t ∧
      St g a b ((w.setCell ⟨X t, k, none⟩ (.int .i64 (oT g a b i k t))).setCell ⟨C t, i * wd + k, none⟩ (.int .u8 (cT g a b i k t))) B wd P G Rw Bl (i + 1) (k : Int) (t + 1) := by
  obtain ⟨X, Y, C, rx, ry, rc, M, h1, h2, h3⟩ := h
  have hq : i * wd + k < P := by
    have : (i + 1) * wd ≤ (a.length + 1) * wd := Nat.mul_le_mul_right _ (by omega)
    rw [Nat.succ_mul] at this
    omega
  refine ⟨X, Y, C, M.hR, M.hL, M.hG, fun hi' s j hs hj => ?_, fun s hs hk1 => ?_, ⟨_, (M.hX t ht).cell hk⟩, (M.hX t ht).frozen _, ⟨_, (M.hC t ht).cell hq⟩, (M.hC t ht).frozen _,
    rowIs_ne (M.hX t ht) M.hG (by decide), ?_, hq, M.bX t ht, M.bC t ht, X, Y, C, _, ry, _, M.set ht _ _, h1, fun s j hs hj hA => ?_, fun i' j s hi' hj hs hA => ?_⟩
  · rw [(M.hY s hs).cell hj, h1 (by omega) s j hs hj]
  · rw [(M.hX s hs).cell hk1, h2 s (k + 1) hs hk1 (by unfold Aft; omega)]
    rfl
  · obtain ⟨c, hc⟩ := rowIs_get (M.hC t ht)
    exact rowIs_ne (M.hX t ht) hc (by decide)
  · unfold upd
    by_cases e : s = t ∧ j = k
    · rw [if_pos e, e.1, e.2]; rfl
    · rw [if_neg e]
      exact h2 s j hs hj (by unfold Aft at *; omega)
  · unfold upd
    by_cases e : s = t ∧ i' * wd + j = i * wd + k
    · have : i' = i ∧ j = k := by
        obtain ⟨_, e⟩ := e
        rcases Nat.lt_trichotomy i' i with hlt | rfl | hlt
        · have : (i' + 1) * wd ≤ i * wd := Nat.mul_le_mul_right _ hlt
          rw [Nat.succ_mul] at this; omega
        · exact ⟨rfl, by omega⟩
        · have : (i + 1) * wd ≤ i' * wd := Nat.mul_le_mul_right _ hlt
          rw [Nat.succ_mul] at this; omega
      rw [if_pos e, e.1, this.1, this.2]
    · rw [if_neg e]
      refine h3 i' j s hi' hj hs ?_
      unfold Aft at *
      rcases hA with hA | ⟨hA, hA'⟩
      · exact .inl hA
      · refine .inr ⟨hA, ?_⟩
        obtain rfl : i' = i := by omega
        omega
/-- When all rows are done. -/
theorem St.fin (hwd : wd = b.length + 1) (h : St g a b w B wd P G Rw Bl 0 K t) : ∃ (Y C : Nat → Nat) (rc : Nat → Nat → Nat),
    w.heap[Bl]? = some (.cells #[sl (Y 0) wd, sl (Y 1) wd] 86 (0, 0)) ∧ w.heap[G]? = some (.cells #[.int .i64 0, sl (C 0) P, sl (C 1) P, .int .i64 wd] 68 (0, 0)) ∧
    w.cell? ⟨Y 0, 0, none⟩ = some (.int .i64 (oT g a b 0 0 0)) ∧
    (∀ s, s < 2 → B ≤ C s ∧ C s ≠ G ∧ w.rowIs (C s) 5 P (fun q => .int .u8 (rc s q))) ∧ (∀ i j s, i ≤ a.length → j < wd → s < 2 → rc s (i * wd + j) = cT g a b i j s) := by
  obtain ⟨X, Y, C, rx, ry, rc, M, h1, h2, h3⟩ := h
  refine ⟨Y, C, rc, M.hL, M.hG, ?_, fun s hs => ⟨M.bC s hs, rowIs_ne (M.hC s hs) M.hG (by decide), M.hC s hs⟩, fun i j s hi hj hs => h3 i j s hi hj hs (.inl (by omega))⟩
  rw [(M.hY 0 (by omega)).cell (by omega), h1 (by omega) 0 0 (by omega) (by omega)]
end

/-- What 'solve' hands back. -/
def Table (g : Int) (a b : List Tok) (w : World) (base : Nat) (v : Value) : Prop :=
  ∃ (C : Nat → Nat) (rc : Nat → Nat → Nat), v = .agg #[.int .i64 (oT g a b 0 0 0), sl (C 0) ((a.length + 1) * (b.length + 1)), sl (C 1) ((a.length + 1) * (b.length + 1)), .int .i64 ((b.length + 1 : Nat) : Int)] ∧
    (∀ s, s < 2 → base ≤ C s ∧ w.rowIs (C s) 5 ((a.length + 1) * (b.length + 1)) (fun q => .int .u8 (rc s q))) ∧
    (∀ i j s, i ≤ a.length → j ≤ b.length → s < 2 → rc s (i * (b.length + 1) + j) = cT g a b i j s)

end Go.Proofs.Ytbpegoekjlehcaa
