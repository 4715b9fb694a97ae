/- Plainly: stable sorting; merging in place, insertion. -/

namespace Go.Proofs.YtknnjnginmkblaaDoor
section

structure Ordr {α : Type} (cf : α → α → Int) : Prop where
  anti : ∀ x y, cf y x = - cf x y
  trans : ∀ x y z, cf x y ≤ 0 → cf y z ≤ 0 → cf x z ≤ 0
section
variable {α : Type} {cf : α → α → Int}
theorem Ordr.self (o : Ordr cf) (x : α) : cf x x = 0 := by
  have := o.anti x x
  omega
theorem Ordr.lt_le (o : Ordr cf) {x y z : α} (h1 : cf x y < 0) (h2 : cf y z ≤ 0) : cf x z < 0 := by
  by_cases h : cf x z < 0
  · exact h
  · have e := o.anti x z
    have := o.trans y z x h2 (by omega)
    have := o.anti x y
    omega
theorem Ordr.le_lt (o : Ordr cf) {x y z : α} (h1 : cf x y ≤ 0) (h2 : cf y z < 0) : cf x z < 0 := by
  by_cases h : cf x z < 0
  · exact h
  · have e := o.anti x z
    have := o.trans z x y (by omega) h1
    have := o.anti y z
    omega
theorem Ordr.eq_eq (o : Ordr cf) {x y z : α} (h1 : cf x y = 0) (h2 : cf y z = 0) : cf x z = 0 := by
  have a1 := o.anti x y
  have a2 := o.anti y z
  have a3 := o.anti x z
  have b1 := o.trans x y z (by omega) (by omega)
  have b2 := o.trans z y x (by omega) (by omega)
  omega
def eqv (cf : α → α → Int) (c x : α) : Bool := decide (cf c x = 0)
def Same (cf : α → α → Int) (l m : List α) : Prop := ∀ c, l.filter (eqv cf c) = m.filter (eqv cf c)
def Srt (cf : α → α → Int) (l : List α) : Prop := l.Pairwise fun x y => cf x y ≤ 0
theorem Same.refl (l : List α) : Same cf l l := fun _ => rfl
theorem Same.symm {l m : List α} (h : Same cf l m) : Same cf m l := fun c => (h c).symm
theorem Same.trans {l m n : List α} (h1 : Same cf l m) (h2 : Same cf m n) : Same cf l n := fun c => (h1 c).trans (h2 c)
theorem Same.app {a b c d : List α} (h1 : Same cf a b) (h2 : Same cf c d) : Same cf (a ++ c) (b ++ d) := fun x => by rw [List.filter_append, List.filter_append, h1 x, h2 x]
theorem same_swap (o : Ordr cf) {X Y : List α} (h : ∀ x ∈ X, ∀ y ∈ Y, cf x y ≠ 0) : Same cf (X ++ Y) (Y ++ X) := by
  intro c
  rw [List.filter_append, List.filter_append]
  by_cases hx : X.filter (eqv cf c) = []
  · rw [hx, List.nil_append, List.append_nil]
  · have hy : Y.filter (eqv cf c) = [] := by
      rw [List.filter_eq_nil_iff]
      intro y hy he
      obtain ⟨x, hxm⟩ := List.exists_mem_of_ne_nil _ hx
      obtain ⟨h1, h2⟩ := List.mem_filter.1 hxm
      unfold eqv at h2 he
      simp only [decide_eq_true_eq] at h2 he
      have := o.anti c x
      exact h x h1 y hy (o.eq_eq (y := c) (by omega) he)
    rw [hy, List.nil_append, List.append_nil]
theorem Same.mem (o : Ordr cf) {l m : List α} (h : Same cf l m) {x : α} (hx : x ∈ l) : x ∈ m := by
  have h1 : x ∈ l.filter (eqv cf x) := List.mem_filter.2 ⟨hx, by unfold eqv; rw [o.self]; rfl⟩
  rw [h x] at h1
  exact (List.mem_filter.1 h1).1
theorem Same.length_zero (o : Ordr cf) {l : List α} (h : Same cf [] l) : l = [] := by
  cases l with
  | nil => rfl
  | cons x r => have := Same.mem o h.symm (x := x) (by simp); simp at this
theorem srt_unique (o : Ordr cf) : ∀ (l m : List α), Srt cf l → Srt cf m → Same cf l m → l = m
  | [], m, _, _, h => (Same.length_zero o h).symm
  | x :: t, [], _, _, h => by have := Same.length_zero o h.symm; cases this
  | x :: t, y :: u, hl, hm, h => by
    have hl' := List.pairwise_cons.1 hl
    have hm' := List.pairwise_cons.1 hm
    have hxy : cf x y ≤ 0 := by
      rcases List.mem_cons.1 (Same.mem o h.symm (x := y) (by simp)) with e | e
      · rw [e, o.self]; omega
      · exact hl'.1 y e
    have hyx : cf y x ≤ 0 := by
      rcases List.mem_cons.1 (Same.mem o h (x := x) (by simp)) with e | e
      · rw [e, o.self]; omega
      · exact hm'.1 x e
    have he : cf x y = 0 := by have := o.anti x y; omega
    have hc := h x
    rw [List.filter_cons_of_pos (by unfold eqv; rw [o.self]; rfl), List.filter_cons_of_pos (by unfold eqv; rw [he]; rfl)] at hc
    injection hc with e1 e2
    subst e1
    have ht : Same cf t u := by
      intro c
      have hc := h c
      by_cases q : eqv cf c x = true
      · rw [List.filter_cons_of_pos q, List.filter_cons_of_pos q] at hc
        injection hc
      · rw [List.filter_cons_of_neg q, List.filter_cons_of_neg q] at hc
        exact hc
    rw [srt_unique o t u hl'.2 hm'.2 ht]
theorem srt_app {X Y : List α} (hx : Srt cf X) (hy : Srt cf Y) (h : ∀ x ∈ X, ∀ y ∈ Y, cf x y ≤ 0) : Srt cf (X ++ Y) := List.pairwise_append.2 ⟨hx, hy, h⟩
theorem Srt.left {X Y : List α} (h : Srt cf (X ++ Y)) : Srt cf X := (List.pairwise_append.1 h).1
theorem Srt.right {X Y : List α} (h : Srt cf (X ++ Y)) : Srt cf Y := (List.pairwise_append.1 h).2.1
theorem Srt.cross {X Y : List α} (h : Srt cf (X ++ Y)) : ∀ x ∈ X, ∀ y ∈ Y, cf x y ≤ 0 := (List.pairwise_append.1 h).2.2
/-- Two runs merged by parts. -/
theorem merge_step (o : Ordr cf) {X1 X2 Y1 Y2 Z1 Z2 : List α} (hx : Srt cf (X1 ++ X2)) (hy : Srt cf (Y1 ++ Y2)) (h1 : ∀ y ∈ Y1, ∀ x ∈ X2, cf y x < 0) (h2 : ∀ x ∈ X1, ∀ y ∈ Y2, cf x y ≤ 0)
    (s1 : Srt cf Z1) (e1 : Same cf (X1 ++ Y1) Z1) (s2 : Srt cf Z2) (e2 : Same cf (X2 ++ Y2) Z2) : Srt cf (Z1 ++ Z2) ∧ Same cf (X1 ++ X2 ++ (Y1 ++ Y2)) (Z1 ++ Z2) := by
  refine ⟨srt_app s1 s2 (fun u hu v hv => ?_), ?_⟩
  · have hu := e1.symm.mem o hu
    have hv := e2.symm.mem o hv
    rcases List.mem_append.1 hu with hu | hu <;> rcases List.mem_append.1 hv with hv | hv
    · exact hx.cross u hu v hv
    · exact h2 u hu v hv
    · have := h1 u hu v hv; omega
    · exact hy.cross u hu v hv
  · have hs : Same cf (X2 ++ Y1) (Y1 ++ X2) := same_swap o (fun x hx y hy => by have := h1 y hy x hx; have := o.anti y x; omega)
    have := (Same.refl (cf := cf) X1).app (hs.app (Same.refl Y2))
    have e3 : Same cf (X1 ++ X2 ++ (Y1 ++ Y2)) (X1 ++ Y1 ++ (X2 ++ Y2)) := by
      have q1 : X1 ++ X2 ++ (Y1 ++ Y2) = X1 ++ ((X2 ++ Y1) ++ Y2) := by simp only [List.append_assoc]
      have q2 : X1 ++ Y1 ++ (X2 ++ Y2) = X1 ++ ((Y1 ++ X2) ++ Y2) := by simp only [List.append_assoc]
      rw [q1, q2]
      exact this
    exact e3.trans (e1.app e2)
variable [Inhabited α]
theorem srt_get {X : List α} (h : Srt cf X) (o : Ordr cf) {i j : Nat} (hij : i ≤ j) (hj : j < X.length) : cf X[i]! X[j]! ≤ 0 := by
  rw [getElem!_pos X i (by omega), getElem!_pos X j hj]
  by_cases e : i = j
  · subst e; rw [o.self]; omega
  · exact List.pairwise_iff_getElem.1 h i j (by omega) hj (by omega)
theorem mem_take {X : List α} {s : Nat} {x : α} (h : x ∈ X.take s) : ∃ i, i < s ∧ i < X.length ∧ x = X[i]! := by
  obtain ⟨i, hi, rfl⟩ := List.mem_iff_getElem.1 h
  rw [List.length_take] at hi
  refine ⟨i, by omega, by omega, ?_⟩
  rw [List.getElem_take, getElem!_pos X i (by omega)]
theorem mem_drop {X : List α} {s : Nat} {x : α} (h : x ∈ X.drop s) : ∃ i, s ≤ i ∧ i < X.length ∧ x = X[i]! := by
  obtain ⟨i, hi, rfl⟩ := List.mem_iff_getElem.1 h
  rw [List.length_drop] at hi
  refine ⟨s + i, by omega, by omega, ?_⟩
  rw [List.getElem_drop, getElem!_pos X (s + i) (by omega)]
/-- The place that symMerge's search finds parts the runs. -/
theorem search_split (o : Ordr cf) {X Y : List α} {K s s0 r0 : Nat} (hx : Srt cf X) (hy : Srt cf Y) (hs : s0 ≤ s) (hr : s ≤ r0) (hrX : r0 ≤ X.length) (hrK : r0 ≤ K) (hK : K ≤ s0 + Y.length)
    (h0 : s0 = 0 ∨ K = s0 + Y.length) (h1 : r0 = X.length ∨ r0 = K)
    (b1 : s = s0 ∨ ¬ cf Y[K - 1 - (s - 1)]! X[s - 1]! < 0) (b2 : s = r0 ∨ cf Y[K - 1 - s]! X[s]! < 0) :
    (∀ y ∈ Y.take (K - s), ∀ x ∈ X.drop s, cf y x < 0) ∧ (∀ x ∈ X.take s, ∀ y ∈ Y.drop (K - s), cf x y ≤ 0) := by
  constructor
  · intro y hy' x hx'
    obtain ⟨j, j1, j2, rfl⟩ := mem_take hy'
    obtain ⟨i, i1, i2, rfl⟩ := mem_drop hx'
    rcases b2 with b2 | b2
    · rcases h1 with h1 | h1 <;> omega
    · have q1 := srt_get hy o (i := j) (j := K - 1 - s) (by omega) (by omega)
      have q2 := srt_get hx o (i := s) (j := i) i1 i2
      exact o.le_lt q1 (o.lt_le b2 q2)
  · intro x hx' y hy'
    obtain ⟨i, i1, i2, rfl⟩ := mem_take hx'
    obtain ⟨j, j1, j2, rfl⟩ := mem_drop hy'
    rcases b1 with b1 | b1
    · rcases h0 with h0 | h0 <;> omega
    · have q1 := srt_get hx o (i := i) (j := s - 1) (by omega) (by omega)
      have q2 := srt_get hy o (i := K - 1 - (s - 1)) (j := j) (by omega) j2
      have := o.anti X[s - 1]! Y[K - 1 - (s - 1)]!
      exact o.trans _ _ _ q1 (o.trans _ _ _ (by omega) q2)
end
end
section
section
variable {α : Type} {cf : α → α → Int}
theorem srt_one (x : α) : Srt cf [x] := List.pairwise_singleton _ x
theorem srt_nil : Srt cf ([] : List α) := List.Pairwise.nil
/-- One element in front, put behind the smaller ones. -/
theorem merge_left (o : Ordr cf) {x : α} {Y1 Y2 : List α} (hy : Srt cf (Y1 ++ Y2)) (h1 : ∀ y ∈ Y1, cf y x < 0) (h2 : ∀ y ∈ Y2, cf x y ≤ 0) : Srt cf (Y1 ++ x :: Y2) ∧ Same cf (x :: (Y1 ++ Y2)) (Y1 ++ x :: Y2) := by
  have := merge_step o (X1 := []) (X2 := [x]) (Y1 := Y1) (Y2 := Y2) (Z1 := Y1) (Z2 := x :: Y2) (srt_one x) hy (fun y hy z hz => by rw [List.mem_singleton.1 hz]; exact h1 y hy) (fun z hz => by cases hz) hy.left (Same.refl _) (List.pairwise_cons.2 ⟨h2, hy.right⟩) (Same.refl _)
  exact this
/-- One element behind, put before the greater ones. -/
theorem merge_right (o : Ordr cf) {y : α} {X1 X2 : List α} (hx : Srt cf (X1 ++ X2)) (h1 : ∀ x ∈ X1, cf x y ≤ 0) (h2 : ∀ x ∈ X2, cf y x < 0) : Srt cf (X1 ++ y :: X2) ∧ Same cf (X1 ++ X2 ++ [y]) (X1 ++ y :: X2) := by
  have := merge_step o (X1 := X1) (X2 := X2) (Y1 := [y]) (Y2 := []) (Z1 := X1 ++ [y]) (Z2 := X2) hx (by rw [List.append_nil]; exact srt_one y) (fun z hz x hx => by rw [List.mem_singleton.1 hz]; exact h2 x hx) (fun _ _ z hz => by cases hz)
    (srt_app hx.left (srt_one y) (fun x hx z hz => by rw [List.mem_singleton.1 hz]; exact h1 x hx)) (Same.refl _) hx.right (by rw [List.append_nil]; exact Same.refl _)
  simpa using this
variable [Inhabited α]
/-- The binary search in front. -/
theorem search_left (o : Ordr cf) {x : α} {Y : List α} {p : Nat} (hy : Srt cf Y) (hp : p ≤ Y.length) (b1 : p = 0 ∨ cf Y[p - 1]! x < 0) (b2 : p = Y.length ∨ ¬ cf Y[p]! x < 0) : (∀ y ∈ Y.take p, cf y x < 0) ∧ (∀ y ∈ Y.drop p, cf x y ≤ 0) := by
  constructor
  · intro y hy'
    obtain ⟨j, j1, j2, rfl⟩ := mem_take hy'
    rcases b1 with b1 | b1
    · omega
    · exact o.le_lt (srt_get hy o (i := j) (j := p - 1) (by omega) (by omega)) b1
  · intro y hy'
    obtain ⟨j, j1, j2, rfl⟩ := mem_drop hy'
    rcases b2 with b2 | b2
    · omega
    · have q1 := srt_get hy o (i := p) (j := j) j1 j2
      have := o.anti Y[p]! x
      exact o.trans _ _ _ (by omega) q1
/-- The binary search behind. -/
theorem search_right (o : Ordr cf) {y : α} {X : List α} {p : Nat} (hx : Srt cf X) (hp : p ≤ X.length) (b1 : p = 0 ∨ ¬ cf y X[p - 1]! < 0) (b2 : p = X.length ∨ cf y X[p]! < 0) : (∀ x ∈ X.take p, cf x y ≤ 0) ∧ (∀ x ∈ X.drop p, cf y x < 0) := by
  constructor
  · intro x hx'
    obtain ⟨j, j1, j2, rfl⟩ := mem_take hx'
    rcases b1 with b1 | b1
    · omega
    · have q1 := srt_get hx o (i := j) (j := p - 1) (by omega) (by omega)
      have := o.anti X[p - 1]! y
      exact o.trans _ _ _ q1 (by omega)
  · intro x hx'
    obtain ⟨j, j1, j2, rfl⟩ := mem_drop hx'
    rcases b2 with b2 | b2
    · omega
    · exact o.lt_le b2 (srt_get hx o (i := p) (j := j) j1 j2)
omit [Inhabited α] in
/-- One round of an insertion sort. -/
theorem insert_round (o : Ordr cf) {y : α} {Z1 Z2 : List α} (hz : Srt cf (Z1 ++ Z2)) (h1 : Z1 = [] ∨ ∃ P q, Z1 = P ++ [q] ∧ ¬ cf y q < 0) (h2 : ∀ z ∈ Z2, cf y z < 0) : Srt cf (Z1 ++ y :: Z2) ∧ Same cf (Z1 ++ Z2 ++ [y]) (Z1 ++ y :: Z2) := by
  refine merge_right o hz (fun x hx => ?_) h2
  rcases h1 with rfl | ⟨P, q, rfl, hq⟩
  · cases hx
  · have ha := o.anti q y
    rcases List.mem_append.1 hx with hx | hx
    · exact o.trans _ _ _ (hz.left.cross x hx q (by simp)) (by omega)
    · rw [List.mem_singleton.1 hx]; omega
/-- What the law wants: each string put behind those not greater. -/
def insS (cf : α → α → Int) (y : α) (L : List α) : List α := (L.reverse.dropWhile (fun x => decide (0 < cf x y))).reverse ++ y :: (L.reverse.takeWhile (fun x => decide (0 < cf x y))).reverse
omit [Inhabited α] in
theorem insS_ok (o : Ordr cf) {y : α} {L : List α} (h : Srt cf L) : Srt cf (insS cf y L) ∧ Same cf (L ++ [y]) (insS cf y L) := by
  have e : L = (L.reverse.dropWhile (fun x => decide (0 < cf x y))).reverse ++ (L.reverse.takeWhile (fun x => decide (0 < cf x y))).reverse := by
    rw [← List.reverse_append, List.takeWhile_append_dropWhile, List.reverse_reverse]
  have h2 : ∀ z ∈ (L.reverse.takeWhile (fun x => decide (0 < cf x y))).reverse, cf y z < 0 := by
    intro z hz
    have := List.all_takeWhile (p := fun x => decide (0 < cf x y)) (l := L.reverse)
    rw [List.all_eq_true] at this
    have := this z (List.mem_reverse.1 hz)
    simp only [decide_eq_true_eq] at this
    have := o.anti z y
    omega
  have h1 : (L.reverse.dropWhile (fun x => decide (0 < cf x y))).reverse = [] ∨ ∃ P q, (L.reverse.dropWhile (fun x => decide (0 < cf x y))).reverse = P ++ [q] ∧ ¬ cf y q < 0 := by
    cases hd : L.reverse.dropWhile (fun x => decide (0 < cf x y)) with
    | nil => exact .inl rfl
    | cons q P =>
      refine .inr ⟨P.reverse, q, by rw [List.reverse_cons], ?_⟩
      have := List.head_dropWhile_not (fun x => decide (0 < cf x y)) (l := L.reverse) (by rw [hd]; simp)
      simp only [hd, List.head_cons, decide_eq_false_iff_not] at this
      have := o.anti q y
      omega
  unfold insS
  generalize hA : (L.reverse.dropWhile (fun x => decide (0 < cf x y))).reverse = A at *
  generalize hB : (L.reverse.takeWhile (fun x => decide (0 < cf x y))).reverse = B at *
  rw [e] at h ⊢
  exact insert_round o h h1 h2
omit [Inhabited α] in
theorem ins_all (o : Ordr cf) : ∀ (L D : List α), Srt cf D → Srt cf (L.foldl (fun acc y => insS cf y acc) D) ∧ Same cf (D ++ L) (L.foldl (fun acc y => insS cf y acc) D)
  | [], D, h => ⟨h, by rw [List.append_nil]; exact Same.refl _⟩
  | y :: L, D, h => by
    have h1 := insS_ok o (y := y) h
    have h2 := ins_all o L _ h1.1
    refine ⟨h2.1, ?_⟩
    have e : D ++ y :: L = (D ++ [y]) ++ L := by simp
    rw [e]
    exact (h1.2.app (Same.refl L)).trans h2.2
end
/-- A map that keeps the order. -/
theorem Srt.map {α β : Type} {cf : α → α → Int} {cg : β → β → Int} {f : α → β} (hf : ∀ x y, cg (f x) (f y) = cf x y) {l : List α} (h : Srt cf l) : Srt cg (l.map f) := by
  unfold Srt
  rw [List.pairwise_map]
  exact h.imp (fun {x y} hxy => by rw [hf]; exact hxy)
end
end Go.Proofs.YtknnjnginmkblaaDoor
