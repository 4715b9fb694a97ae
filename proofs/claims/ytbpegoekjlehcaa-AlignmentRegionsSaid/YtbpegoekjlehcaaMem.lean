/- The memory of the table: two rows of scores, the rows below, the choices. -/
import Derived.Test.YtbpegoekjlehcaaLib
import Derived.Deep.OwnRows
namespace Go.Proofs.Ytbpegoekjlehcaa
open Go.RowKit

def sl (b n : Nat) : Value := .slice (some ⟨b, 0, none⟩) n n

structure Mem (w : World) (B wd P : Nat) (G Rw Bl : Nat) (X Y C : Nat → Nat) (rx ry : Nat → Nat → Int) (rc : Nat → Nat → Nat) : Prop where
  hX : ∀ s, s < 2 → w.rowIs (X s) 3 wd (fun j => .int .i64 (rx s j))
  hY : ∀ s, s < 2 → w.rowIs (Y s) 3 wd (fun j => .int .i64 (ry s j))
  hC : ∀ s, s < 2 → w.rowIs (C s) 5 P (fun q => .int .u8 (rc s q))
  hR : w.heap[Rw]? = some (.cells #[sl (X 0) wd, sl (X 1) wd] 86 (0, 0))
  hL : w.heap[Bl]? = some (.cells #[sl (Y 0) wd, sl (Y 1) wd] 86 (0, 0))
  hG : w.heap[G]? = some (.cells #[.int .i64 0, sl (C 0) P, sl (C 1) P, .int .i64 wd] 68 (0, 0))
  nX : X 0 ≠ X 1
  nY : Y 0 ≠ Y 1
  nC : C 0 ≠ C 1
  nXY : ∀ s t, s < 2 → t < 2 → X s ≠ Y t
  nRL : Rw ≠ Bl
  bX : ∀ s, s < 2 → B ≤ X s
  bY : ∀ s, s < 2 → B ≤ Y s
  bC : ∀ s, s < 2 → B ≤ C s
  bR : B ≤ Rw
  bL : B ≤ Bl
  bG : B ≤ G

theorem rowIs_get {w : World} {b n : Nat} {t : TypeId} {f : Nat → Value} (h : w.rowIs b t n f) : ∃ cs : Array Value, w.heap[b]? = some (.cells cs t (0, 0)) := by
  unfold World.rowIs at h
  obtain ⟨c, h1, _⟩ := h
  exact ⟨c, h1⟩
theorem rowIs_ne {w : World} {b n b' : Nat} {t t' : TypeId} {f : Nat → Value} {cs : Array Value} (h : w.rowIs b t n f) (h' : w.heap[b']? = some (.cells cs t' (0, 0))) (hne : t ≠ t') : b ≠ b' := by
  rintro rfl
  obtain ⟨c, hc⟩ := rowIs_get h
  rw [hc] at h'
  injection h' with h'
  injection h' with _ h'
  exact hne h'

section
variable {w w' : World} {B wd P G Rw Bl : Nat} {X Y C : Nat → Nat} {rx ry : Nat → Nat → Int} {rc : Nat → Nat → Nat}

theorem Mem.lt (h : Mem w B wd P G Rw Bl X Y C rx ry rc) : (∀ s, s < 2 → X s < w.heap.size) ∧ (∀ s, s < 2 → Y s < w.heap.size) ∧ (∀ s, s < 2 → C s < w.heap.size) ∧ Rw < w.heap.size ∧ Bl < w.heap.size ∧ G < w.heap.size :=
  ⟨fun s hs => (h.hX s hs).lt, fun s hs => (h.hY s hs).lt, fun s hs => (h.hC s hs).lt, lt_of_block h.hR, lt_of_block h.hL, lt_of_block h.hG⟩
/-- Over a call, or a step, that leaves all that was there. -/
theorem Mem.over (h : Mem w B wd P G Rw Bl X Y C rx ry rc) (hb : Below w.heap.size w w') : Mem w' B wd P G Rw Bl X Y C rx ry rc := by
  obtain ⟨l1, l2, l3, l4, l5, l6⟩ := h.lt
  exact { h with
    hX := fun s hs => (h.hX s hs).of_block (hb.block _ (l1 s hs))
    hY := fun s hs => (h.hY s hs).of_block (hb.block _ (l2 s hs))
    hC := fun s hs => (h.hC s hs).of_block (hb.block _ (l3 s hs))
    hR := (hb.block _ l4).trans h.hR
    hL := (hb.block _ l5).trans h.hL
    hG := (hb.block _ l6).trans h.hG }
theorem Mem.drewN (h : Mem w B wd P G Rw Bl X Y C rx ry rc) (n : Nat) : Mem (w.drewN n) B wd P G Rw Bl X Y C rx ry rc := h.over (below_drewN (Below.refl _ _) n)
theorem Mem.drew (h : Mem w B wd P G Rw Bl X Y C rx ry rc) : Mem w.drew B wd P G Rw Bl X Y C rx ry rc := h.over (Below.refl _ _).drew

def upd {α : Type} (r : Nat → Nat → α) (s k : Nat) (v : α) : Nat → Nat → α := fun s' j => if s' = s ∧ j = k then v else r s' j

theorem Mem.ne_two {X : Nat → Nat} (h : X 0 ≠ X 1) {s t : Nat} (hs : s < 2) (ht : t < 2) (hne : s ≠ t) : X s ≠ X t := by
  match s, t, hs, ht with
  | 0, 0, _, _ => exact absurd rfl hne
  | 0, 1, _, _ => exact h
  | 1, 0, _, _ => exact h.symm
  | 1, 1, _, _ => exact absurd rfl hne
/-- What 'set' makes of it. -/
theorem Mem.set (h : Mem w B wd P G Rw Bl X Y C rx ry rc) {s k q : Nat} (hs : s < 2) (sc : Int) (ch : Nat) :
    Mem ((w.setCell ⟨X s, k, none⟩ (.int .i64 sc)).setCell ⟨C s, q, none⟩ (.int .u8 ch)) B wd P G Rw Bl X Y C (upd rx s k sc) ry (upd rc s q ch) := by
  have x1 : ∀ t, t < 2 → X t ≠ C s := fun t ht => by obtain ⟨c, hc⟩ := rowIs_get (h.hC s hs); exact rowIs_ne (h.hX t ht) hc (by decide)
  have x2 : ∀ t, t < 2 → Y t ≠ C s := fun t ht => by obtain ⟨c, hc⟩ := rowIs_get (h.hC s hs); exact rowIs_ne (h.hY t ht) hc (by decide)
  have x3 : Rw ≠ C s := (rowIs_ne (h.hC s hs) h.hR (by decide)).symm
  have x4 : Bl ≠ C s := (rowIs_ne (h.hC s hs) h.hL (by decide)).symm
  have x5 : G ≠ C s := (rowIs_ne (h.hC s hs) h.hG (by decide)).symm
  have x6 : Rw ≠ X s := (rowIs_ne (h.hX s hs) h.hR (by decide)).symm
  have x7 : Bl ≠ X s := (rowIs_ne (h.hX s hs) h.hL (by decide)).symm
  have x8 : G ≠ X s := (rowIs_ne (h.hX s hs) h.hG (by decide)).symm
  have x9 : ∀ t, t < 2 → C t ≠ X s := fun t ht => by obtain ⟨c, hc⟩ := rowIs_get (h.hX s hs); exact rowIs_ne (h.hC t ht) hc (by decide)
  have old : ∀ g, g ≠ X s → g ≠ C s → ((w.setCell ⟨X s, k, none⟩ (.int .i64 sc)).setCell ⟨C s, q, none⟩ (.int .u8 ch)).heap[g]? = w.heap[g]? := fun g h1 h2 =>
    (Below.heap_setCell _ ⟨C s, q, none⟩ _ g h2).trans (Below.heap_setCell _ ⟨X s, k, none⟩ _ g h1)
  exact { h with
    hX := fun t ht => by
      by_cases e : t = s
      · subst e
        refine (((h.hX t hs).set k (.int .i64 sc)).setOther (a := ⟨C t, q, none⟩) (x1 t hs) _).congr (fun j _ => ?_)
        by_cases hj : j = k <;> simp [upd, hj]
      · exact ((h.hX t ht).of_block (old _ (Mem.ne_two h.nX ht hs e) (x1 t ht))).congr (fun j _ => by simp [upd, e])
    hY := fun t ht => (h.hY t ht).of_block (old _ (h.nXY s t hs ht).symm (x2 t ht))
    hC := fun t ht => by
      by_cases e : t = s
      · subst e
        refine (((h.hC t hs).setOther (a := ⟨X t, k, none⟩) (x9 t hs) _).set q (.int .u8 ch)).congr (fun j _ => ?_)
        by_cases hj : j = q <;> simp [upd, hj]
      · exact ((h.hC t ht).of_block (old _ (x9 t ht) (Mem.ne_two h.nC ht hs e))).congr (fun j _ => by simp [upd, e])
    hR := (old _ x6 x3).trans h.hR
    hL := (old _ x7 x4).trans h.hL
    hG := (old _ x8 x5).trans h.hG }
/-- The rows change places. -/
theorem Mem.swap (h : Mem w B wd P G Rw Bl X Y C rx ry rc) : Mem ((w.setCell ⟨Rw, 0, none⟩ (sl (Y 0) wd) |>.setCell ⟨Rw, 1, none⟩ (sl (Y 1) wd) |>.setCell ⟨Bl, 0, none⟩ (sl (X 0) wd)).setCell ⟨Bl, 1, none⟩ (sl (X 1) wd)) B wd P G Rw Bl Y X C ry rx rc := by
  have n1 : ∀ t, t < 2 → X t ≠ Rw := fun t ht => rowIs_ne (h.hX t ht) h.hR (by decide)
  have n2 : ∀ t, t < 2 → X t ≠ Bl := fun t ht => rowIs_ne (h.hX t ht) h.hL (by decide)
  have n3 : ∀ t, t < 2 → Y t ≠ Rw := fun t ht => rowIs_ne (h.hY t ht) h.hR (by decide)
  have n4 : ∀ t, t < 2 → Y t ≠ Bl := fun t ht => rowIs_ne (h.hY t ht) h.hL (by decide)
  have n5 : ∀ t, t < 2 → C t ≠ Rw := fun t ht => rowIs_ne (h.hC t ht) h.hR (by decide)
  have n6 : ∀ t, t < 2 → C t ≠ Bl := fun t ht => rowIs_ne (h.hC t ht) h.hL (by decide)
  have n7 : G ≠ Rw := by rintro rfl; have := h.hG; rw [h.hR] at this; injection this with this; injection this with _ this; exact absurd this (by decide)
  have n8 : G ≠ Bl := by rintro rfl; have := h.hG; rw [h.hL] at this; injection this with this; injection this with _ this; exact absurd this (by decide)
  have old : ∀ g, g ≠ Rw → g ≠ Bl → ((w.setCell ⟨Rw, 0, none⟩ (sl (Y 0) wd) |>.setCell ⟨Rw, 1, none⟩ (sl (Y 1) wd) |>.setCell ⟨Bl, 0, none⟩ (sl (X 0) wd)).setCell ⟨Bl, 1, none⟩ (sl (X 1) wd)).heap[g]? = w.heap[g]? := fun g h1 h2 => by
    rw [Below.heap_setCell _ _ _ g h2, Below.heap_setCell _ _ _ g h2, Below.heap_setCell _ _ _ g h1, Below.heap_setCell _ _ _ g h1]
  exact { h with
    hX := fun t ht => (h.hY t ht).of_block (old _ (n3 t ht) (n4 t ht))
    hY := fun t ht => (h.hX t ht).of_block (old _ (n1 t ht) (n2 t ht))
    hC := fun t ht => (h.hC t ht).of_block (old _ (n5 t ht) (n6 t ht))
    hR := by
      rw [Below.heap_setCell _ _ _ Rw h.nRL, Below.heap_setCell _ _ _ Rw h.nRL]
      simp [World.setCell, Array.getElem?_modify, h.hR]
    hL := by
      have := h.hL
      have hne := h.nRL
      simp [World.setCell, Array.getElem?_modify, this, hne]
    hG := (old _ n7 n8).trans h.hG
    nX := h.nY
    nY := h.nX
    nXY := fun s t hs ht => (h.nXY t s ht hs).symm
    bX := h.bY
    bY := h.bX }
end

def nl : Value := .slice none 0 0
/-- The blocks of the table while its rows are made: none, the first ones, all. -/
def Ini (w : World) (B wd P G Rw Bl : Nat) (k : Nat) : Prop :=
  B ≤ G ∧ B ≤ Rw ∧ B ≤ Bl ∧ Rw ≠ Bl ∧
  ((k = 0 ∧ w.heap[Rw]? = some (.cells #[nl, nl] 86 (0, 0)) ∧ w.heap[Bl]? = some (.cells #[nl, nl] 86 (0, 0)) ∧ w.heap[G]? = some (.cells #[.int .i64 0, nl, nl, .int .i64 wd] 68 (0, 0))) ∨
   (k = 1 ∧ ∃ X Y C : Nat, B ≤ X ∧ B ≤ Y ∧ B ≤ C ∧ X ≠ Y ∧ w.rowIs X 3 wd (fun _ => .int .i64 0) ∧ w.rowIs Y 3 wd (fun _ => .int .i64 0) ∧ w.rowIs C 5 P (fun _ => .int .u8 0) ∧
     w.heap[Rw]? = some (.cells #[sl X wd, nl] 86 (0, 0)) ∧ w.heap[Bl]? = some (.cells #[sl Y wd, nl] 86 (0, 0)) ∧ w.heap[G]? = some (.cells #[.int .i64 0, sl C P, nl, .int .i64 wd] 68 (0, 0))) ∨
   (k = 2 ∧ ∃ X Y C : Nat → Nat, Mem w B wd P G Rw Bl X Y C (fun _ _ => 0) (fun _ _ => 0) (fun _ _ => 0)))

theorem blk_cell {w : World} {g : Nat} {t : TypeId} {cs : Array Value} (h : w.heap[g]? = some (.cells cs t (0, 0))) (i : Nat) : w.cell? ⟨g, i, none⟩ = cs[i]? := cell_of_row w g i cs t (0, 0) h
theorem blk_free {w : World} {g : Nat} {t : TypeId} {cs : Array Value} (h : w.heap[g]? = some (.cells cs t (0, 0))) (i : Nat) : w.frozen? ⟨g, i, none⟩ = false := frozen_of_row w g i cs t h

/-- The world in which the choices of one row lie in a new block, and the table knows of it. -/
theorem choice_made {w : World} {G P E : Nat} {cs : Array Value} {x : Value} (i : Nat) (hG : w.heap[G]? = some (.cells cs E (0, 0))) :
    let w2 := (w.setCell ⟨G, i, none⟩ x).alloc (.cells (madeCells #[.int .u8 0] P) 5)
    w2.heap[G]? = some (.cells (cs.setIfInBounds i x) E (0, 0)) ∧ w2.rowIs w.heap.size 5 P (fun _ => .int .u8 0) ∧ w2.heap.size = w.heap.size + 1 ∧ (∀ g, g < w.heap.size → g ≠ G → w2.heap[g]? = w.heap[g]?) := by
  intro w2
  have hlt := lt_of_block hG
  refine ⟨?_, ?_, by simp [w2], fun g hg hne => ?_⟩
  · rw [show w2.heap[G]? = (w.setCell ⟨G, i, none⟩ x).heap[G]? from Below.heap_alloc _ _ _ (by simpa using hlt)]
    simp [World.setCell, Array.getElem?_modify, hG]
  · have := World.rowIs_made (w.setCell ⟨G, i, none⟩ x) (.int .u8 0) P 5
    simpa using this
  · rw [show w2.heap[g]? = (w.setCell ⟨G, i, none⟩ x).heap[g]? from Below.heap_alloc _ _ _ (by simpa using hg)]
    exact Below.heap_setCell _ _ _ _ hne
/-- The world in which two new rows lie in new blocks (in either order), and both variables know of them. -/
theorem rows_made {w : World} {Rw Bl wd i : Nat} {rs ls : Array Value} {x y : Value} (hR : w.heap[Rw]? = some (.cells rs 86 (0, 0))) (hL : w.heap[Bl]? = some (.cells ls 86 (0, 0))) (hne : Rw ≠ Bl) :
    let w2 := (((w.setCell ⟨Rw, i, none⟩ x).setCell ⟨Bl, i, none⟩ y).alloc (.cells (madeCells #[.int .i64 0] wd) 3)).alloc (.cells (madeCells #[.int .i64 0] wd) 3)
    w2.heap[Rw]? = some (.cells (rs.setIfInBounds i x) 86 (0, 0)) ∧ w2.heap[Bl]? = some (.cells (ls.setIfInBounds i y) 86 (0, 0)) ∧ w2.rowIs w.heap.size 3 wd (fun _ => .int .i64 0) ∧
      w2.rowIs (w.heap.size + 1) 3 wd (fun _ => .int .i64 0) ∧ w2.heap.size = w.heap.size + 2 ∧ (∀ g, g < w.heap.size → g ≠ Rw → g ≠ Bl → w2.heap[g]? = w.heap[g]?) := by
  intro w2
  have l1 := lt_of_block hR
  have l2 := lt_of_block hL
  have old : ∀ g, g < w.heap.size → w2.heap[g]? = ((w.setCell ⟨Rw, i, none⟩ x).setCell ⟨Bl, i, none⟩ y).heap[g]? := fun g hg => by
    rw [show w2.heap[g]? = _ from Below.heap_alloc _ _ _ (by simp; omega)]
    exact Below.heap_alloc _ _ _ (by simpa using hg)
  have m1 := World.rowIs_made ((w.setCell ⟨Rw, i, none⟩ x).setCell ⟨Bl, i, none⟩ y) (.int .i64 0) wd 3
  have m2 := World.rowIs_made (((w.setCell ⟨Rw, i, none⟩ x).setCell ⟨Bl, i, none⟩ y).alloc (.cells (madeCells #[.int .i64 0] wd) 3)) (.int .i64 0) wd 3
  refine ⟨?_, ?_, ?_, ?_, by simp [w2], fun g hg h1 h2 => ?_⟩
  · rw [old _ l1, Below.heap_setCell _ _ _ Rw hne]
    simp [World.setCell, Array.getElem?_modify, hR]
  · rw [old _ l2]
    exact heap_setCell_same _ _ _ _ _ _ ((Below.heap_setCell _ _ _ Bl hne.symm).trans hL)
  · have := m1.alloc (.cells (madeCells #[.int .i64 0] wd) 3)
    simpa using this
  · simpa using m2
  · rw [old g hg, Below.heap_setCell _ _ _ g h2, Below.heap_setCell _ _ _ g h1]

theorem heap_alloc_new' (w : World) (o : Obj) {n : Nat} (h : n = w.heap.size) : (w.alloc o).heap[n]? = some o := by subst h; exact heap_alloc_new w o
theorem blk_ne {w : World} {g g' : Nat} {t t' : TypeId} {cs cs' : Array Value} (h : w.heap[g]? = some (.cells cs t (0, 0))) (h' : w.heap[g']? = some (.cells cs' t' (0, 0))) (hne : t ≠ t') : g ≠ g' := by
  rintro rfl
  rw [h] at h'
  injection h' with h'
  injection h' with _ h'
  exact hne h'
def mk2 (w2 : World) (Rw Bl wd i X Y : Nat) : World :=
  ((((w2.setCell ⟨Rw, i, none⟩ (sl X wd)).setCell ⟨Bl, i, none⟩ (sl Y wd)).alloc (.cells (madeCells #[.int .i64 0] wd) 3)).alloc (.cells (madeCells #[.int .i64 0] wd) 3)).drew
theorem ini_1 {w2 : World} {B wd P G Rw Bl C X Y : Nat} (q1 : B ≤ G) (q2 : B ≤ Rw) (q3 : B ≤ Bl) (q4 : Rw ≠ Bl) (hB : B ≤ C) (hz : B ≤ w2.heap.size)
    (hG : w2.heap[G]? = some (.cells #[.int .i64 0, sl C P, nl, .int .i64 wd] 68 (0, 0))) (rC : w2.rowIs C 5 P (fun _ => .int .u8 0))
    (hR : w2.heap[Rw]? = some (.cells #[nl, nl] 86 (0, 0))) (hL : w2.heap[Bl]? = some (.cells #[nl, nl] 86 (0, 0)))
    (hXY : (X = w2.heap.size ∧ Y = w2.heap.size + 1) ∨ (X = w2.heap.size + 1 ∧ Y = w2.heap.size)) : Ini (mk2 w2 Rw Bl wd 0 X Y) B wd P G Rw Bl 1 := by
  obtain ⟨m1, m2, m3, m4, m5, m6⟩ := rows_made (wd := wd) (i := 0) (x := sl X wd) (y := sl Y wd) hR hL q4
  have g1 := (m6 G (lt_of_block hG) (blk_ne hG hR (by decide)) (blk_ne hG hL (by decide))).trans hG
  have g2 := rC.of_block (m6 C rC.lt (rowIs_ne rC hR (by decide)) (rowIs_ne rC hL (by decide)))
  refine ⟨q1, q2, q3, q4, .inr (.inl ⟨rfl, X, Y, C, by omega, by omega, hB, by omega, ?_, ?_, g2, m1, m2, g1⟩)⟩
  · rcases hXY with ⟨rfl, rfl⟩ | ⟨rfl, rfl⟩
    · exact m3
    · exact m4
  · rcases hXY with ⟨rfl, rfl⟩ | ⟨rfl, rfl⟩
    · exact m4
    · exact m3
def two (a b : Nat) : Nat → Nat := fun s => if s = 0 then a else b
theorem two_lt {p : Nat → Nat → Prop} {a b : Nat} (h0 : p 0 a) (h1 : p 1 b) : ∀ s, s < 2 → p s (two a b s) := by
  intro s hs
  match s, hs with
  | 0, _ => exact h0
  | 1, _ => exact h1
theorem ini_2 {w2 : World} {B wd P G Rw Bl C0 X0 Y0 C X Y : Nat} (q1 : B ≤ G) (q2 : B ≤ Rw) (q3 : B ≤ Bl) (q4 : Rw ≠ Bl) (hB : B ≤ C) (hz : B ≤ w2.heap.size) (p1 : B ≤ X0) (p2 : B ≤ Y0) (p3 : B ≤ C0)
    (p4 : X0 ≠ Y0) (hC : C0 ≠ C) (rX : w2.rowIs X0 3 wd (fun _ => .int .i64 0)) (rY : w2.rowIs Y0 3 wd (fun _ => .int .i64 0)) (rC0 : w2.rowIs C0 5 P (fun _ => .int .u8 0))
    (hG : w2.heap[G]? = some (.cells #[.int .i64 0, sl C0 P, sl C P, .int .i64 wd] 68 (0, 0))) (rC : w2.rowIs C 5 P (fun _ => .int .u8 0))
    (hR : w2.heap[Rw]? = some (.cells #[sl X0 wd, nl] 86 (0, 0))) (hL : w2.heap[Bl]? = some (.cells #[sl Y0 wd, nl] 86 (0, 0)))
    (hXY : (X = w2.heap.size ∧ Y = w2.heap.size + 1) ∨ (X = w2.heap.size + 1 ∧ Y = w2.heap.size)) : Ini (mk2 w2 Rw Bl wd 1 X Y) B wd P G Rw Bl 2 := by
  obtain ⟨m1, m2, m3, m4, m5, m6⟩ := rows_made (wd := wd) (i := 1) (x := sl X wd) (y := sl Y wd) hR hL q4
  have g1 := (m6 G (lt_of_block hG) (blk_ne hG hR (by decide)) (blk_ne hG hL (by decide))).trans hG
  have g2 := rC.of_block (m6 C rC.lt (rowIs_ne rC hR (by decide)) (rowIs_ne rC hL (by decide)))
  have g3 := rC0.of_block (m6 C0 rC0.lt (rowIs_ne rC0 hR (by decide)) (rowIs_ne rC0 hL (by decide)))
  have g4 := rX.of_block (m6 X0 rX.lt (rowIs_ne rX hR (by decide)) (rowIs_ne rX hL (by decide)))
  have g5 := rY.of_block (m6 Y0 rY.lt (rowIs_ne rY hR (by decide)) (rowIs_ne rY hL (by decide)))
  have l1 := rX.lt
  have l2 := rY.lt
  have eX : (mk2 w2 Rw Bl wd 1 X Y).rowIs X 3 wd (fun _ => .int .i64 0) := by
    rcases hXY with ⟨rfl, rfl⟩ | ⟨rfl, rfl⟩
    · exact m3
    · exact m4
  have eY : (mk2 w2 Rw Bl wd 1 X Y).rowIs Y 3 wd (fun _ => .int .i64 0) := by
    rcases hXY with ⟨rfl, rfl⟩ | ⟨rfl, rfl⟩
    · exact m4
    · exact m3
  refine ⟨q1, q2, q3, q4, .inr (.inr ⟨rfl, two X0 X, two Y0 Y, two C0 C, ?_⟩)⟩
  exact {
    hX := two_lt (p := fun _ z => (mk2 w2 Rw Bl wd 1 X Y).rowIs z 3 wd (fun _ => .int .i64 0)) g4 eX
    hY := two_lt (p := fun _ z => (mk2 w2 Rw Bl wd 1 X Y).rowIs z 3 wd (fun _ => .int .i64 0)) g5 eY
    hC := two_lt (p := fun _ z => (mk2 w2 Rw Bl wd 1 X Y).rowIs z 5 P (fun _ => .int .u8 0)) g3 g2
    hR := m1
    hL := m2
    hG := g1
    nX := by show X0 ≠ X; omega
    nY := by show Y0 ≠ Y; omega
    nC := hC
    nXY := by
      intro s t hs ht
      match s, t, hs, ht with
      | 0, 0, _, _ => exact p4
      | 0, 1, _, _ => show X0 ≠ Y; omega
      | 1, 0, _, _ => show X ≠ Y0; omega
      | 1, 1, _, _ => show X ≠ Y; omega
    nRL := q4
    bX := two_lt (p := fun _ z => B ≤ z) p1 (by omega)
    bY := two_lt (p := fun _ z => B ≤ z) p2 (by omega)
    bC := two_lt (p := fun _ z => B ≤ z) p3 hB
    bR := q2
    bL := q3
    bG := q1 }
theorem below_mk2 {B : Nat} {w0 w2 : World} (h : Below B w0 w2) {Rw Bl wd i X Y : Nat} (h1 : B ≤ Rw) (h2 : B ≤ Bl) (hz : B ≤ w2.heap.size) : Below B w0 (mk2 w2 Rw Bl wd i X Y) := by
  unfold mk2
  refine Below.drew (((Below.alloc ?_ ?_ _)).alloc ?_ _)
  · exact (h.setCell (by exact h1) _).setCell (by exact h2) _
  · simpa using hz
  · simp; omega

end Go.Proofs.Ytbpegoekjlehcaa
