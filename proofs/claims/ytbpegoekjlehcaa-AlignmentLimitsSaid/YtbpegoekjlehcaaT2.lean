/- The memory of the model's table: while its rows are made, and between two steps. -/
import Derived.Test.YtbpegoekjlehcaaSt
import Derived.Test.YtbpegoekjlehcaaT1
namespace Go.Proofs.Ytbpegoekjlehcaa
open Go.RowKit

theorem info72 : (Try.prog.info? 72).map (fun i => (i.zero, i.size, i.bytes)) = some (some (.agg #[.int .i64 0, .int .i64 0]), 2, 16) := by kernel_rfl
theorem info73 : (Try.prog.info? 73).map (fun i => (i.zero, i.size, i.bytes)) = some (some (.slice none 0 0), 1, 24) := by kernel_rfl

/-- 'make([][2]int, n)'. -/
theorem run_make_two (n : Nat) (h : n ≤ 4096) (w : World) :
    (Instr.makeSlice 73 (.int .i64 (n : Int)) (.int .i64 (n : Int))).run Try.prog w = .ok (.slice (some ⟨w.heap.size, 0, none⟩) n n) (w.alloc (.cells (madeCells #[.int .i64 0, .int .i64 0] (n * 2)) 72)) := by
  obtain ⟨i0, hi, hz0, hz1, hz2⟩ := info_parts info72
  have hr := run_make (P := Try.prog) w 73 72 i0 _ Try.underlying73 hi hz0 .i64 .i64 n n (by omega) (Int.le_refl _) (by rw [hz2]; omega) (by omega)
  simp only [Int.toNat_natCast, hz1] at hr
  exact hr
theorem madeTwo (w : World) (n : Nat) : (w.alloc (.cells (madeCells #[.int .i64 0, .int .i64 0] n) 72)).rowIs w.heap.size 72 n (fun _ => .int .i64 0) :=
  ⟨_, heap_alloc_new _ _, size_madeCells _ _, fun i hi => by
    have : i % 2 < 2 := Nat.mod_lt _ (by omega)
    have h2 : i % 2 = 0 ∨ i % 2 = 1 := by omega
    rcases h2 with h2 | h2 <;> simp [madeCells, hi, h2]⟩

def encR (wd : Nat) (r : Nat) : List Value := [.slice (some ⟨r, 0, none⟩) wd wd]
theorem encR_length (wd r : Nat) : (encR wd r).length = 1 := rfl

/-- The table while its rows are made. -/
def Mk (w : World) (B G wd : Nat) (va vb : Value) (g : Int) (v : Value) (rs : List Nat) : Prop :=
  B ≤ G ∧ w.heap[G]? = some (.cells #[va, vb, .int .i64 g, v] 76 (0, 0)) ∧ Own (encR wd) 1 73 w B v rs ∧ rs.Nodup ∧ ∀ r ∈ rs, B ≤ r ∧ w.rowIs r 72 (wd * 2) (fun _ => .int .i64 0)

theorem ownBlock_ne {w : World} {B E : Nat} {sz n : Nat} {v : Value} {xs : List Value} (h : w.ownsRow B E sz v n xs) {g : Nat} {cs : Array Value} {t : TypeId} (hg : w.heap[g]? = some (.cells cs t (0, 0))) (ht : t ≠ E) : v.ownBlock ≠ some g := by
  rcases h.2 with ⟨rfl, _⟩ | ⟨q, cap, cur, rfl, _, hh, _⟩
  · intro h; cases h
  · intro h
    injection h with h
    subst h
    have : some (Obj.cells cur E (0, 0)) = some (Obj.cells cs t (0, 0)) := hh.symm.trans hg
    injection this with this
    injection this with _ this
    exact ht this.symm

theorem Mk.push {w w1 : World} {B G wd : Nat} {va vb v v1 : Value} {g : Int} {rs : List Nat} (h : Mk w B G wd va vb g v rs) (hB : B ≤ w.heap.size)
    (hold : ∀ k, k < w.heap.size → some k ≠ v.ownBlock → w1.heap[k]? = w.heap[k]?) (hnew : w1.rowIs w.heap.size 72 (wd * 2) (fun _ => .int .i64 0)) (hown : Own (encR wd) 1 73 w1 B v1 (rs ++ [w.heap.size])) :
    Mk (w1.setCell ⟨G, 3, none⟩ v1) B G wd va vb g v1 (rs ++ [w.heap.size]) := by
  obtain ⟨h1, h2, h3, h4, h5⟩ := h
  have hG1 := (hold G (lt_of_block h2) (Ne.symm (ownBlock_ne h3 h2 (by decide)))).trans h2
  refine ⟨h1, ?_, ?_, ?_, ?_⟩
  · simp [World.setCell, Array.getElem?_modify, hG1]
  · unfold Own at hown ⊢
    refine ⟨hown.1, ?_⟩
    rcases hown.2 with h | ⟨q, cap, cur, rfl, hq, hh, r⟩
    · exact .inl h
    · refine .inr ⟨q, cap, cur, rfl, hq, ?_, r⟩
      rw [Below.heap_setCell _ _ _ q (blk_ne hh hG1 (by decide))]
      exact hh
  · rw [List.nodup_append]
    refine ⟨h4, by simp, ?_⟩
    intro x hx y hy
    simp at hy
    subst hy
    have := (h5 x hx).2.lt
    omega
  · intro r hr
    rcases List.mem_append.1 hr with hr | hr
    · obtain ⟨k1, k2⟩ := h5 r hr
      obtain ⟨c, hc⟩ := rowIs_get k2
      exact ⟨k1, (k2.of_block (hold r k2.lt (Ne.symm (ownBlock_ne h3 hc (by decide))))).setOther (rowIs_ne (k2.of_block (hold r k2.lt (Ne.symm (ownBlock_ne h3 hc (by decide))))) hG1 (by decide)) _⟩
    · simp at hr
      subst hr
      exact ⟨hB, hnew.setOther (rowIs_ne hnew hG1 (by decide)) _⟩

/-- One more row, as the walk makes it. -/
theorem Mk.push2 {w0 w w1 : World} {B G wd : Nat} {va vb v : Value} {g : Int} {rs : List Nat} {gg cap : Nat} (h : Mk w B G wd va vb g v rs) (hB : B ≤ w.heap.size) (hbl : Below B w0 w)
    (hown : w1.ownsRow B 73 1 (.slice (some ⟨gg, 0, none⟩) (rs.length + 1) cap) (rs.length + 1) (rs.flatMap (encR wd) ++ [.slice (some ⟨w.heap.size, 0, none⟩) wd wd]))
    (hgrow : (((w.alloc (.cells (madeCells #[.int .i64 0, .int .i64 0] (wd * 2)) 72)).alloc (.cells #[.slice (some ⟨w.heap.size, 0, none⟩) wd wd] 73)).drew).grownBy w1 v.ownBlock) :
    Mk (w1.setCell ⟨G, 3, none⟩ (.slice (some ⟨gg, 0, none⟩) (rs.length + 1) cap)) B G wd va vb g (.slice (some ⟨gg, 0, none⟩) (rs.length + 1) cap) (rs ++ [w.heap.size]) ∧
      Below B w0 (w1.setCell ⟨G, 3, none⟩ (.slice (some ⟨gg, 0, none⟩) (rs.length + 1) cap)) := by
  have hnew := ((madeTwo w (wd * 2)).alloc (.cells #[.slice (some ⟨w.heap.size, 0, none⟩) wd wd] 73)).drew
  have hvlt : ∀ q, v.ownBlock = some q → B ≤ q ∧ q < w.heap.size := fun q hq => World.ownsRow.lt h.2.2.1 q hq
  constructor
  · refine h.push hB (fun k hk hne => ?_) (hnew.of_block (hgrow.block _ ?_ ?_)) ?_
    · refine (hgrow.block k (by simp [World.drew]; omega) hne).trans ?_
      show ((w.alloc _).alloc _).heap[k]? = _
      rw [Below.heap_alloc _ _ _ (by simp; omega), Below.heap_alloc _ _ _ hk]
    · simp [World.drew]; omega
    · intro he
      have := (hvlt _ he.symm).2
      omega
    · unfold Own
      rw [List.length_append, List.flatMap_append]
      simpa [encR] using hown
  · refine Below.setCell ?_ (by exact h.1) _
    refine Below.grown ((((hbl.alloc hB _).alloc (by simp; omega) _)).drew) hgrow (by simp [World.drew]; omega) (fun q hq => (hvlt q hq).1)

/-- The table's blocks, all rows made. -/
structure Tb (w : World) (B G F wd n cap : Nat) (va vb : Value) (g : Int) (R : Nat → Nat) (f : Nat → Nat → Int) : Prop where
  hG : w.heap[G]? = some (.cells #[va, vb, .int .i64 g, .slice (some ⟨F, 0, none⟩) n cap] 76 (0, 0))
  hF : ∃ cs : Array Value, w.heap[F]? = some (.cells cs 73 (0, 0)) ∧ ∀ i, i < n → cs[i]? = some (.slice (some ⟨R i, 0, none⟩) wd wd)
  hR : ∀ i, i < n → w.rowIs (R i) 72 (wd * 2) (fun q => .int .i64 (f i q))
  nR : ∀ i i', i < n → i' < n → i ≠ i' → R i ≠ R i'
  bG : B ≤ G
  bF : B ≤ F
  bR : ∀ i, i < n → B ≤ R i

theorem Mk.tb {w : World} {B G wd : Nat} {va vb v : Value} {g : Int} {rs : List Nat} {n : Nat} (h : Mk w B G wd va vb g v rs) (hn : rs.length = n) (hn0 : 0 < n) :
    ∃ F cap R, v = .slice (some ⟨F, 0, none⟩) n cap ∧ Tb w B G F wd n cap va vb g R (fun _ _ => 0) := by
  obtain ⟨h1, h2, h3, h4, h5⟩ := h
  subst hn
  unfold Own at h3
  rcases id h3.2 with ⟨_, h0⟩ | ⟨F, cap, cur, rfl, hF, hh, hc1, hc2, hc3, hc4⟩
  · omega
  · refine ⟨F, cap, fun i => rs.getD i 0, rfl, h2, ⟨cur, hh, fun i hi => ?_⟩, fun i hi => ?_, fun i i' hi hi' hne => ?_, h1, hF, fun i hi => ?_⟩
    · have := flatMap_get (encR_length wd) rs i rs[i] (by simp) 0 _ rfl
      rw [← hc4, List.getElem?_take] at this
      have e : rs.getD i 0 = rs[i] := by simp [List.getD_eq_getElem?_getD, hi]
      rw [e]
      split at this
      · simpa using this
      · cases this
    · have e : rs.getD i 0 = rs[i] := by simp [List.getD_eq_getElem?_getD, hi]
      rw [e]
      exact (h5 _ (List.getElem_mem hi)).2
    · have e : rs.getD i 0 = rs[i] := by simp [List.getD_eq_getElem?_getD, hi]
      have e' : rs.getD i' 0 = rs[i'] := by simp [List.getD_eq_getElem?_getD, hi']
      rw [e, e']
      intro he
      rcases Nat.lt_or_gt_of_ne hne with hlt | hlt
      · exact List.pairwise_iff_getElem.1 h4 i i' (by omega) (by omega) hlt he
      · exact List.pairwise_iff_getElem.1 h4 i' i (by omega) (by omega) hlt he.symm
    · have e : rs.getD i 0 = rs[i] := by simp [List.getD_eq_getElem?_getD, hi]
      rw [e]
      exact (h5 _ (List.getElem_mem hi)).1

section
variable {w w' : World} {B G F wd n cap : Nat} {va vb : Value} {g : Int} {R : Nat → Nat} {f : Nat → Nat → Int}
theorem Tb.over (h : Tb w B G F wd n cap va vb g R f) (hb : Below w.heap.size w w') : Tb w' B G F wd n cap va vb g R f := by
  obtain ⟨cs, h1, h2⟩ := h.hF
  exact { h with
    hG := (hb.block _ (lt_of_block h.hG)).trans h.hG
    hF := ⟨cs, (hb.block _ (lt_of_block h1)).trans h1, h2⟩
    hR := fun i hi => (h.hR i hi).of_block (hb.block _ (h.hR i hi).lt) }
theorem Tb.row (h : Tb w B G F wd n cap va vb g R f) {i : Nat} (hi : i < n) : w.cell? ⟨F, i, none⟩ = some (.slice (some ⟨R i, 0, none⟩) wd wd) := by
  obtain ⟨cs, h1, h2⟩ := h.hF
  rw [blk_cell h1 i]
  exact h2 i hi
theorem Tb.set (h : Tb w B G F wd n cap va vb g R f) {i q : Nat} (hi : i < n) (x : Int) : Tb (w.setCell ⟨R i, q, none⟩ (.int .i64 x)) B G F wd n cap va vb g R (upd f i q x) := by
  obtain ⟨cs, h1, h2⟩ := h.hF
  have x1 : G ≠ R i := (rowIs_ne (h.hR i hi) h.hG (by decide)).symm
  have x2 : F ≠ R i := (rowIs_ne (h.hR i hi) h1 (by decide)).symm
  exact { h with
    hG := (Below.heap_setCell _ ⟨R i, q, none⟩ _ G x1).trans h.hG
    hF := ⟨cs, (Below.heap_setCell _ ⟨R i, q, none⟩ _ F x2).trans h1, h2⟩
    hR := fun k hk => by
      by_cases e : k = i
      · subst e
        refine ((h.hR k hk).set q (.int .i64 x)).congr (fun j _ => ?_)
        by_cases hj : j = q <;> simp [upd, hj]
      · exact ((h.hR k hk).setOther (a := ⟨R i, q, none⟩) (h.nR k i hk hi e) _).congr (fun j _ => by simp [upd, e]) }
end

/-- What is known of the table: row D and all below, of row D - 1 what stands behind place K, t cells of place K; and the last place. -/
def Dn (a b : List Tok) (D : Nat) (K : Int) (t i j s : Nat) : Prop := D ≤ i ∨ (i + 1 = D ∧ Aft K t j s) ∨ (i = a.length ∧ j = b.length)
def TS (g : Int) (a b : List Tok) (w : World) (B G F wd n cap : Nat) (va vb : Value) (R : Nat → Nat) (D : Nat) (K : Int) (t : Nat) : Prop :=
  ∃ f, Tb w B G F wd n cap va vb g R f ∧ ∀ i j s, i < n → j < wd → s < 2 → Dn a b D K t i j s → f i (j * 2 + s) = oT g a b i j s

section
variable {g : Int} {a b : List Tok} {w w' : World} {B G F wd n cap : Nat} {va vb : Value} {R : Nat → Nat} {D : Nat} {K : Int} {t : Nat}
theorem TS.over (h : TS g a b w B G F wd n cap va vb R D K t) (hb : Below w.heap.size w w') : TS g a b w' B G F wd n cap va vb R D K t := by
  obtain ⟨f, h1, h2⟩ := h
  exact ⟨f, h1.over hb, h2⟩
theorem oT_end (g : Int) (a b : List Tok) (s : Nat) : oT g a b a.length b.length s = 0 := congrArg Prod.fst (optC_end g a b s)
theorem TS.start (hn : n = a.length + 1) (hwd : wd = b.length + 1) (M : Tb w B G F wd n cap va vb g R (fun _ _ => 0)) : TS g a b w B G F wd n cap va vb R n (b.length : Int) 0 := by
  refine ⟨_, M, fun i j s hi hj hs h => ?_⟩
  unfold Dn Aft at h
  have : i = a.length ∧ j = b.length := by omega
  rw [this.1, this.2, oT_end]
/-- The last place needs no step. -/
theorem TS.skip (h : TS g a b w B G F wd n cap va vb R D K t) (hD : D = a.length + 1) (hK : K = (b.length : Int)) (hwd : wd = b.length + 1) : TS g a b w B G F wd n cap va vb R D K 2 := by
  obtain ⟨f, h1, h2⟩ := h
  refine ⟨f, h1, fun i j s hi hj hs h => h2 i j s hi hj hs ?_⟩
  unfold Dn Aft at *
  omega
theorem TS.next (h : TS g a b w B G F wd n cap va vb R D K 2) : TS g a b w B G F wd n cap va vb R D (K - 1) 0 := by
  obtain ⟨f, h1, h2⟩ := h
  refine ⟨f, h1, fun i j s hi hj hs h => h2 i j s hi hj hs ?_⟩
  unfold Dn Aft at *
  omega
theorem TS.down (hwd : wd = b.length + 1) {i : Nat} (h : TS g a b w B G F wd n cap va vb R (i + 1) (-1) 0) : TS g a b w B G F wd n cap va vb R i (b.length : Int) 0 := by
  obtain ⟨f, h1, h2⟩ := h
  refine ⟨f, h1, fun i j s hi hj hs h => h2 i j s hi hj hs ?_⟩
  unfold Dn Aft at *
  omega
theorem TS.tab (h : TS g a b w B G F wd n cap va vb R D K t) : w.heap[G]? = some (.cells #[va, vb, .int .i64 g, .slice (some ⟨F, 0, none⟩) n cap] 76 (0, 0)) := by
  obtain ⟨f, h1, _⟩ := h
  exact h1.hG
/-- What a step reads. -/
theorem TS.reads {i k : Nat} (hn : n = a.length + 1) (hwd : wd = b.length + 1) (h : TS g a b w B G F wd n cap va vb R (i + 1) (k : Int) t) (hi : i ≤ a.length) (hk : k ≤ b.length) :
    (i < a.length → k < b.length → ∃ r, w.cell? ⟨F, i + 1, none⟩ = some (.slice (some ⟨r, 0, none⟩) wd wd) ∧ w.cell? ⟨r, (k + 1) * 2, none⟩ = some (.int .i64 (oT g a b (i + 1) (k + 1) 0))) ∧
    (i < a.length → ∃ r, w.cell? ⟨F, i + 1, none⟩ = some (.slice (some ⟨r, 0, none⟩) wd wd) ∧ w.cell? ⟨r, k * 2 + 1, none⟩ = some (.int .i64 (oT g a b (i + 1) k 1))) ∧
    (k < b.length → ∃ r, w.cell? ⟨F, i, none⟩ = some (.slice (some ⟨r, 0, none⟩) wd wd) ∧ w.cell? ⟨r, (k + 1) * 2 + 1, none⟩ = some (.int .i64 (oT g a b i (k + 1) 1))) := by
  obtain ⟨f, M, h2⟩ := h
  refine ⟨fun h3 h4 => ⟨_, M.row (by omega), ?_⟩, fun h3 => ⟨_, M.row (by omega), ?_⟩, fun h3 => ⟨_, M.row (by omega), ?_⟩⟩
  · rw [(M.hR (i + 1) (by omega)).cell (by omega)]
    have := h2 (i + 1) (k + 1) 0 (by omega) (by omega) (by omega) (by unfold Dn; omega)
    simp only [Nat.add_zero] at this
    rw [this]
  · rw [(M.hR (i + 1) (by omega)).cell (by omega), h2 (i + 1) k 1 (by omega) (by omega) (by omega) (by unfold Dn; omega)]
  · rw [(M.hR i (by omega)).cell (by omega), h2 i (k + 1) 1 (by omega) (by omega) (by omega) (by unfold Dn Aft; omega)]
/-- Where a step stores. -/
theorem TS.place {i k : Nat} (hn : n = a.length + 1) (hwd : wd = b.length + 1) (h : TS g a b w B G F wd n cap va vb R D K t) (hi : i ≤ a.length) (hk : k ≤ b.length) {s : Nat} (hs : s < 2) :
    w.cell? ⟨F, i, none⟩ = some (.slice (some ⟨R i, 0, none⟩) wd wd) ∧ (∃ x, w.cell? ⟨R i, k * 2 + s, none⟩ = some x) ∧ w.frozen? ⟨R i, k * 2 + s, none⟩ = false ∧ B ≤ R i ∧ G ≠ R i ∧ F ≠ R i := by
  obtain ⟨f, M, _⟩ := h
  have hin : i < n := by omega
  obtain ⟨cs, h1, _⟩ := M.hF
  exact ⟨M.row hin, ⟨_, (M.hR i hin).cell (by omega)⟩, (M.hR i hin).frozen _, M.bR i hin, (rowIs_ne (M.hR i hin) M.hG (by decide)).symm, (rowIs_ne (M.hR i hin) h1 (by decide)).symm⟩
/-- The store leaves what was known. -/
theorem TS.put {i k : Nat} (hn : n = a.length + 1) (hwd : wd = b.length + 1) (h : TS g a b w B G F wd n cap va vb R (i + 1) (k : Int) t) (ht : t < 2) (hi : i ≤ a.length) (hne : i + k < a.length + b.length) (x : Int) :
    TS g a b (w.setCell ⟨R i, k * 2 + t, none⟩ (.int .i64 x)) B G F wd n cap va vb R (i + 1) (k : Int) t := by
  obtain ⟨f, M, h2⟩ := h
  refine ⟨_, M.set (by omega) x, fun i' j s hi' hj hs hA => ?_⟩
  unfold upd
  by_cases e : i' = i ∧ j * 2 + s = k * 2 + t
  · exfalso
    unfold Dn Aft at hA
    omega
  · rw [if_neg e]
    exact h2 i' j s hi' hj hs hA
theorem TS.grow {i k : Nat} (hn : n = a.length + 1) (hwd : wd = b.length + 1) (h : TS g a b w B G F wd n cap va vb R (i + 1) (k : Int) t) (ht : t < 2) (hi : i ≤ a.length) (hk : k ≤ b.length)
    (hx : w.cell? ⟨R i, k * 2 + t, none⟩ = some (.int .i64 (oT g a b i k t))) : TS g a b w B G F wd n cap va vb R (i + 1) (k : Int) (t + 1) := by
  obtain ⟨f, M, h2⟩ := h
  refine ⟨f, M, fun i' j s hi' hj hs hA => ?_⟩
  by_cases e : i' = i ∧ j = k ∧ s = t
  · obtain ⟨rfl, rfl, rfl⟩ := e
    rw [(M.hR i' hi').cell (by omega)] at hx
    simpa using hx
  · refine h2 i' j s hi' hj hs ?_
    unfold Dn Aft at *
    omega
theorem setCell_val {w : World} {b o : Nat} {v y : Value} (h : (w.setCell ⟨b, o, none⟩ v).cell? ⟨b, o, none⟩ = some y) : y = v := by
  cases hx : w.cell? ⟨b, o, none⟩ with
  | some x =>
    rw [World.cell?_setCell_same _ _ _ hx] at h
    injection h with h
    exact h.symm
  | none =>
    exfalso
    simp only [World.setCell, World.cell?, Array.getElem?_modify, if_true] at h hx
    cases ho : w.heap[b]? with
    | none => rw [ho] at h; simp at h
    | some ob =>
      rw [ho] at h hx
      cases ob <;> simp_all
end

/-- What 'fill' hands back. -/
def Filled (g : Int) (a b : List Tok) (w : World) (va vb v : Value) : Prop :=
  ∃ (G F cap : Nat) (R : Nat → Nat), v = .pointer (some ⟨G, 0, none⟩) ∧ w.heap[G]? = some (.cells #[va, vb, .int .i64 g, .slice (some ⟨F, 0, none⟩) (a.length + 1) cap] 76 (0, 0)) ∧
    (∀ i, i ≤ a.length → w.cell? ⟨F, i, none⟩ = some (.slice (some ⟨R i, 0, none⟩) (b.length + 1) (b.length + 1))) ∧
    ∀ i j s, i ≤ a.length → j ≤ b.length → s < 2 → w.cell? ⟨R i, j * 2 + s, none⟩ = some (.int .i64 (oT g a b i j s))
theorem TS.fin {g : Int} {a b : List Tok} {w : World} {B G F wd n cap : Nat} {va vb : Value} {R : Nat → Nat} {K : Int} {t : Nat} (hn : n = a.length + 1) (hwd : wd = b.length + 1)
    (h : TS g a b w B G F wd n cap va vb R 0 K t) : Filled g a b w va vb (.pointer (some ⟨G, 0, none⟩)) := by
  obtain ⟨f, M, h2⟩ := h
  subst hn hwd
  refine ⟨G, F, cap, R, rfl, M.hG, fun i hi => M.row (by omega), fun i j s hi hj hs => ?_⟩
  rw [(M.hR i (by omega)).cell (by omega), h2 i j s (by omega) (by omega) hs (by unfold Dn; omega)]
theorem Filled.over {g : Int} {a b : List Tok} {w w' : World} {va vb v : Value} (h : Filled g a b w va vb v) (hb : Below w.heap.size w w') : Filled g a b w' va vb v := by
  obtain ⟨G, F, cap, R, rfl, h1, h2, h3⟩ := h
  exact ⟨G, F, cap, R, rfl, (hb.block _ (lt_of_block h1)).trans h1, fun i hi => cell_over (h2 i hi) hb, fun i j s hi hj hs => cell_over (h3 i j s hi hj hs) hb⟩
end Go.Proofs.Ytbpegoekjlehcaa
