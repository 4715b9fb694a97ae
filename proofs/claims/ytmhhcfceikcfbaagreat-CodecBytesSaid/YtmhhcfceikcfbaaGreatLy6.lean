/- Walks: the law's reader of edits; the record of an edit. -/
import Derived.Test.YtmhhcfceikcfbaaGreatLy5
import Derived.Test.YtmhhcfceikcfbaaGreatW1
namespace Go.Proofs.YtmhhcfceikcfbaaGreat
open Go.RowKit

abbrev Ed (n : Nat) := List Int × Bool × List (It n) × List (Rw n) × List (Ce n) × Stg
def tenE (l : List Int) : List Nat := l.flatMap encN
def edE (n : Nat) : Ed n → List Nat := seqE tenE (seqE flagE (seqE (listE (itE n)) (seqE (listE (rwE (itE n))) (seqE (listE (ceE (itE n))) stgE))))
def edR (n : Nat) : Rd (Ed n) := seqR (manyR rdN 10) (seqR flagR (seqR (listR (itR n)) (seqR (listR (rwR (itR n))) (seqR (listR (ceR (itR n))) stgR))))
def edP (n : Nat) : Rp (Ed n) := fun w G vs x => ∃ fv rv cv s0 s1 s2 s3, vs = x.1.map intV ++ [.bool x.2.1, fv, rv, cv, s0, s1, s2, s3] ∧ (x.1.length = 10 ∧ ∀ y ∈ x.1, I64 y) ∧ Slv (itP n) 11 w G fv x.2.2.1 ∧ Slv (rwP (itP n)) 6 w G rv x.2.2.2.1 ∧ Slv (ceP (itP n)) 7 w G cv x.2.2.2.2.1 ∧ stgP w G [s0, s1, s2, s3] x.2.2.2.2.2
theorem stb_ed (n : Nat) : Stb (edP n) := by
  rintro w w' G G' vs x hG hb ⟨fv, rv, cv, s0, s1, s2, s3, e, i1, h1, h2, h3, h4⟩
  exact ⟨fv, rv, cv, s0, s1, s2, s3, e, i1, h1.stb (stb_it n) hG hb, h2.stb (stb_rw (stb_it n)) hG hb, h3.stb (stb_ce (stb_it n)) hG hb, stb_stg _ _ _ _ _ _ hG hb h4⟩
theorem one_ed (n : Nat) : One (edP n) := by
  rintro w G vs x ⟨fv, rv, cv, s0, s1, s2, s3, rfl, _, h1, h2, h3, h4⟩ u hu
  rcases List.mem_append.1 hu with hu | hu
  · obtain ⟨y, _, rfl⟩ := List.mem_map.1 hu
    rfl
  · rcases List.mem_append.1 (show u ∈ [Value.bool x.2.1, fv, rv, cv] ++ [s0, s1, s2, s3] from hu) with hu | hu
    · simp only [List.mem_cons, List.not_mem_nil, or_false] at hu
      rcases hu with rfl | rfl | rfl | rfl
      · rfl
      · exact h1.one
      · exact h2.one
      · exact h3.one
    · exact one_stg _ _ _ _ h4 u hu
theorem size68 : (Tryz.prog.info? 68).map (·.size) = some 18 := by kernel_rfl
def tail68 : List Value := [.bool false, .slice none 0 0, .slice none 0 0, .slice none 0 0, .slice none 0 0, .slice none 0 0, .slice none 0 0, .slice none 0 0]
/-- The numbers so far, the zeros behind, the rest. -/
def curX (xs : List Int) (j : Nat) : Array Value := (xs.map intV ++ (List.replicate j (intV 0) ++ tail68)).toArray
theorem curX_put (xs : List Int) (j : Nat) (x : Int) : putAll (curX xs (j + 1)) xs.length [intV x] = curX (xs ++ [x]) j := by
  have h := putAll_mid (xs.map intV) [intV 0] (List.replicate j (intV 0) ++ tail68) [intV x] rfl
  rw [List.length_map] at h
  unfold curX
  rw [List.map_append, List.append_assoc]
  exact h
theorem curX_size (xs : List Int) (j : Nat) : (curX xs j).size = xs.length + j + 8 := by
  unfold curX tail68
  simp
  omega
/-- Pointers to the first ten cells. -/
def PtrS (p g : Nat) (w : World) : Prop := p < w.heap.size ∧ ∀ i, i < 10 → w.cell? ⟨p, i, none⟩ = some (.pointer (some ⟨g, i, none⟩))
theorem PtrS.grow {p g q : Nat} {w w' : World} (h : PtrS p g w) (hg : w.grownBy w' (some q)) (hq : p ≠ q) : PtrS p g w' :=
  ⟨Nat.lt_of_lt_of_le h.1 hg.size, fun i hi => (World.cell?_of_block (a := ⟨p, i, none⟩) (hg.block p h.1 (fun e => hq (by injection e)))).trans (h.2 i hi)⟩
theorem Res.snoc_any {α : Type} {p : Rd α} {s : ByteArray} {k k1 k2 i : Nat} {e e1 e2 : Int} {l : List α} {x : α} (h : Res (manyR p i) s k e l k1 e1) (g : Res p s k1 e1 x k2 e2) : Res (manyR p (i + 1)) s k e (l ++ [x]) k2 e2 := by
  rcases Int.decEq e1 0 with q | q
  · have h2 := g.2.1 q
    subst h2
    refine ⟨g.1, h.2.1, fun h0 => ?_⟩
    have h3 := h.2.2 h0
    rw [many_snoc]
    cases hq : manyR p i ((bytesN s).drop k) with
    | ok y n => rw [hq] at h3; exact absurd h3.2.2 q
    | err E => rw [hq] at h3; exact h3
  · subst q
    exact h.snoc g
theorem len_10 {vs : List Int} (h : vs.length = 10) : ∃ a0 a1 a2 a3 a4 a5 a6 a7 a8 a9, vs = [a0, a1, a2, a3, a4, a5, a6, a7, a8, a9] := by
  match vs, h with
  | [a0, a1, a2, a3, a4, a5, a6, a7, a8, a9], _ => exact ⟨_, _, _, _, _, _, _, _, _, _, rfl⟩

set_option maxRecDepth 100000 in
set_option maxHeartbeats 4000000 in
theorem lr39 (n : Nat) (r k0 : Nat) (s : ByteArray) (e0 : Int) (w : World) (h : Rdr 30 r s k0 e0 w) (hk0 : k0 ≤ s.size) (hs : s.size ≤ 549755813888) (D0 : e0 = 0 → s.size - k0 < n) :
    Calls Tryz.prog 39 #[.pointer (some ⟨r, 0, none⟩)] w (RecC (edP n) (edR n) 18 30 r s k0 e0 w) := by
  have hrl := lt_of_blk h
  have I0 : InvN 68 30 r (w.heap.size + 1) s w (w.heap.size + 2) k0 e0 #[.int .i64 0, .int .i64 0, .int .i64 0, .int .i64 0, .int .i64 0, .int .i64 0, .int .i64 0, .int .i64 0, .int .i64 0, .int .i64 0, .bool false, .slice none 0 0, .slice none 0 0, .slice none 0 0, .slice none 0 0, .slice none 0 0, .slice none 0 0, .slice none 0 0] ((w.alloc (.cells #[.int .i64 0, .int .i64 0, .int .i64 0, .int .i64 0, .int .i64 0, .int .i64 0, .int .i64 0, .int .i64 0, .int .i64 0, .int .i64 0, .bool false, .slice none 0 0, .slice none 0 0, .slice none 0 0, .slice none 0 0, .slice none 0 0, .slice none 0 0, .slice none 0 0] 68)).alloc (.cells #[.int .i64 0, .int .i64 0, .int .i64 0, .int .i64 0, .int .i64 0, .int .i64 0, .int .i64 0, .int .i64 0, .int .i64 0, .int .i64 0, .bool false, .slice none 0 0, .slice none 0 0, .slice none 0 0, .slice none 0 0, .slice none 0 0, .slice none 0 0, .slice none 0 0] 68)) := ⟨(h.alloc _).alloc _, hk0, heap_alloc_new' _ _ (by simp), grown_alloc (grown_alloc (grown_refl w (some r)) _) _, by omega, by omega, by omega, by omega, by simp⟩
  have HZ : ((w.alloc (.cells #[.int .i64 0, .int .i64 0, .int .i64 0, .int .i64 0, .int .i64 0, .int .i64 0, .int .i64 0, .int .i64 0, .int .i64 0, .int .i64 0, .bool false, .slice none 0 0, .slice none 0 0, .slice none 0 0, .slice none 0 0, .slice none 0 0, .slice none 0 0, .slice none 0 0] 68)).alloc (.cells #[.int .i64 0, .int .i64 0, .int .i64 0, .int .i64 0, .int .i64 0, .int .i64 0, .int .i64 0, .int .i64 0, .int .i64 0, .int .i64 0, .bool false, .slice none 0 0, .slice none 0 0, .slice none 0 0, .slice none 0 0, .slice none 0 0, .slice none 0 0, .slice none 0 0] 68)).heap[w.heap.size]? = some (.cells #[.int .i64 0, .int .i64 0, .int .i64 0, .int .i64 0, .int .i64 0, .int .i64 0, .int .i64 0, .int .i64 0, .int .i64 0, .int .i64 0, .bool false, .slice none 0 0, .slice none 0 0, .slice none 0 0, .slice none 0 0, .slice none 0 0, .slice none 0 0, .slice none 0 0] 68 (0, 0)) := (Below.heap_alloc _ _ _ (by simp)).trans (heap_alloc_new w _)
  clear h
  go_enter Tryz.func39, Tryz.ntmps39
  go_upto_region 2 with fail
  refine wp_region_seq0 (by rfl) ?_
  simp only [List.map]
  refine sq_pure (.pointer (some ⟨w.heap.size + 1, 0, none⟩)) (by go_simp) trivial ?_
  simp only [Act.put, List.setIfInBounds_toArray, List.set_cons_zero, List.set_cons_succ]
  refine sq_pure (.pointer (some ⟨w.heap.size + 1, 1, none⟩)) (by go_simp) trivial ?_
  simp only [Act.put, List.setIfInBounds_toArray, List.set_cons_zero, List.set_cons_succ]
  refine sq_pure (.pointer (some ⟨w.heap.size + 1, 2, none⟩)) (by go_simp) trivial ?_
  simp only [Act.put, List.setIfInBounds_toArray, List.set_cons_zero, List.set_cons_succ]
  refine sq_pure (.pointer (some ⟨w.heap.size + 1, 3, none⟩)) (by go_simp) trivial ?_
  simp only [Act.put, List.setIfInBounds_toArray, List.set_cons_zero, List.set_cons_succ]
  refine sq_pure (.pointer (some ⟨w.heap.size + 1, 4, none⟩)) (by go_simp) trivial ?_
  simp only [Act.put, List.setIfInBounds_toArray, List.set_cons_zero, List.set_cons_succ]
  refine sq_pure (.pointer (some ⟨w.heap.size + 1, 5, none⟩)) (by go_simp) trivial ?_
  simp only [Act.put, List.setIfInBounds_toArray, List.set_cons_zero, List.set_cons_succ]
  refine sq_pure (.pointer (some ⟨w.heap.size + 1, 6, none⟩)) (by go_simp) trivial ?_
  simp only [Act.put, List.setIfInBounds_toArray, List.set_cons_zero, List.set_cons_succ]
  refine sq_pure (.pointer (some ⟨w.heap.size + 1, 7, none⟩)) (by go_simp) trivial ?_
  simp only [Act.put, List.setIfInBounds_toArray, List.set_cons_zero, List.set_cons_succ]
  refine sq_pure (.pointer (some ⟨w.heap.size + 1, 8, none⟩)) (by go_simp) trivial ?_
  simp only [Act.put, List.setIfInBounds_toArray, List.set_cons_zero, List.set_cons_succ]
  refine sq_pure (.pointer (some ⟨w.heap.size + 1, 9, none⟩)) (by go_simp) trivial ?_
  simp only [Act.put, List.setIfInBounds_toArray, List.set_cons_zero, List.set_cons_succ]
  refine sq_value (.slice (some ⟨w.heap.size + 2, 0, none⟩) 10 10) (((w.alloc (.cells #[.int .i64 0, .int .i64 0, .int .i64 0, .int .i64 0, .int .i64 0, .int .i64 0, .int .i64 0, .int .i64 0, .int .i64 0, .int .i64 0, .bool false, .slice none 0 0, .slice none 0 0, .slice none 0 0, .slice none 0 0, .slice none 0 0, .slice none 0 0, .slice none 0 0] 68)).alloc (.cells #[.int .i64 0, .int .i64 0, .int .i64 0, .int .i64 0, .int .i64 0, .int .i64 0, .int .i64 0, .int .i64 0, .int .i64 0, .int .i64 0, .bool false, .slice none 0 0, .slice none 0 0, .slice none 0 0, .slice none 0 0, .slice none 0 0, .slice none 0 0, .slice none 0 0] 68)).alloc (.cells #[.pointer (some ⟨w.heap.size + 1, 0, none⟩), .pointer (some ⟨w.heap.size + 1, 1, none⟩), .pointer (some ⟨w.heap.size + 1, 2, none⟩), .pointer (some ⟨w.heap.size + 1, 3, none⟩), .pointer (some ⟨w.heap.size + 1, 4, none⟩), .pointer (some ⟨w.heap.size + 1, 5, none⟩), .pointer (some ⟨w.heap.size + 1, 6, none⟩), .pointer (some ⟨w.heap.size + 1, 7, none⟩), .pointer (some ⟨w.heap.size + 1, 8, none⟩), .pointer (some ⟨w.heap.size + 1, 9, none⟩)] 160)) (by go_simp) trivial ?_
  simp only [Act.put, List.setIfInBounds_toArray, List.set_cons_zero, List.set_cons_succ]
  refine sq_pure (.slice (some ⟨w.heap.size + 2, 0, none⟩) 10 10) (by go_simp) trivial ?_
  simp only [Act.put, List.setIfInBounds_toArray, List.set_cons_zero, List.set_cons_succ]
  refine sq_done ?_
  have hP : PtrS (w.heap.size + 2) (w.heap.size + 1) (((w.alloc (.cells #[.int .i64 0, .int .i64 0, .int .i64 0, .int .i64 0, .int .i64 0, .int .i64 0, .int .i64 0, .int .i64 0, .int .i64 0, .int .i64 0, .bool false, .slice none 0 0, .slice none 0 0, .slice none 0 0, .slice none 0 0, .slice none 0 0, .slice none 0 0, .slice none 0 0] 68)).alloc (.cells #[.int .i64 0, .int .i64 0, .int .i64 0, .int .i64 0, .int .i64 0, .int .i64 0, .int .i64 0, .int .i64 0, .int .i64 0, .int .i64 0, .bool false, .slice none 0 0, .slice none 0 0, .slice none 0 0, .slice none 0 0, .slice none 0 0, .slice none 0 0, .slice none 0 0] 68)).alloc (.cells #[.pointer (some ⟨w.heap.size + 1, 0, none⟩), .pointer (some ⟨w.heap.size + 1, 1, none⟩), .pointer (some ⟨w.heap.size + 1, 2, none⟩), .pointer (some ⟨w.heap.size + 1, 3, none⟩), .pointer (some ⟨w.heap.size + 1, 4, none⟩), .pointer (some ⟨w.heap.size + 1, 5, none⟩), .pointer (some ⟨w.heap.size + 1, 6, none⟩), .pointer (some ⟨w.heap.size + 1, 7, none⟩), .pointer (some ⟨w.heap.size + 1, 8, none⟩), .pointer (some ⟨w.heap.size + 1, 9, none⟩)] 160)) := ⟨by simp, fun i hi => by
    rw [cell_of_row _ (w.heap.size + 2) i _ 160 (0, 0) (heap_alloc_new' _ _ (by simp))]
    match i, hi with
    | 0, _ | 1, _ | 2, _ | 3, _ | 4, _ | 5, _ | 6, _ | 7, _ | 8, _ | 9, _ => rfl⟩
  have I1 : InvN 68 30 r (w.heap.size + 1) s w (w.heap.size + 2) k0 e0 (curX [] 10) (((w.alloc (.cells #[.int .i64 0, .int .i64 0, .int .i64 0, .int .i64 0, .int .i64 0, .int .i64 0, .int .i64 0, .int .i64 0, .int .i64 0, .int .i64 0, .bool false, .slice none 0 0, .slice none 0 0, .slice none 0 0, .slice none 0 0, .slice none 0 0, .slice none 0 0, .slice none 0 0] 68)).alloc (.cells #[.int .i64 0, .int .i64 0, .int .i64 0, .int .i64 0, .int .i64 0, .int .i64 0, .int .i64 0, .int .i64 0, .int .i64 0, .int .i64 0, .bool false, .slice none 0 0, .slice none 0 0, .slice none 0 0, .slice none 0 0, .slice none 0 0, .slice none 0 0, .slice none 0 0] 68)).alloc (.cells #[.pointer (some ⟨w.heap.size + 1, 0, none⟩), .pointer (some ⟨w.heap.size + 1, 1, none⟩), .pointer (some ⟨w.heap.size + 1, 2, none⟩), .pointer (some ⟨w.heap.size + 1, 3, none⟩), .pointer (some ⟨w.heap.size + 1, 4, none⟩), .pointer (some ⟨w.heap.size + 1, 5, none⟩), .pointer (some ⟨w.heap.size + 1, 6, none⟩), .pointer (some ⟨w.heap.size + 1, 7, none⟩), .pointer (some ⟨w.heap.size + 1, 8, none⟩), .pointer (some ⟨w.heap.size + 1, 9, none⟩)] 160)) := I0.alloc _
  have HZ1 := (Below.heap_alloc ((w.alloc (.cells #[.int .i64 0, .int .i64 0, .int .i64 0, .int .i64 0, .int .i64 0, .int .i64 0, .int .i64 0, .int .i64 0, .int .i64 0, .int .i64 0, .bool false, .slice none 0 0, .slice none 0 0, .slice none 0 0, .slice none 0 0, .slice none 0 0, .slice none 0 0, .slice none 0 0] 68)).alloc (.cells #[.int .i64 0, .int .i64 0, .int .i64 0, .int .i64 0, .int .i64 0, .int .i64 0, .int .i64 0, .int .i64 0, .int .i64 0, .int .i64 0, .bool false, .slice none 0 0, .slice none 0 0, .slice none 0 0, .slice none 0 0, .slice none 0 0, .slice none 0 0, .slice none 0 0] 68)) (.cells #[.pointer (some ⟨w.heap.size + 1, 0, none⟩), .pointer (some ⟨w.heap.size + 1, 1, none⟩), .pointer (some ⟨w.heap.size + 1, 2, none⟩), .pointer (some ⟨w.heap.size + 1, 3, none⟩), .pointer (some ⟨w.heap.size + 1, 4, none⟩), .pointer (some ⟨w.heap.size + 1, 5, none⟩), .pointer (some ⟨w.heap.size + 1, 6, none⟩), .pointer (some ⟨w.heap.size + 1, 7, none⟩), .pointer (some ⟨w.heap.size + 1, 8, none⟩), .pointer (some ⟨w.heap.size + 1, 9, none⟩)] 160) _ (lt_of_blk HZ)).trans HZ
  obtain ⟨W, hW⟩ : ∃ W, W = ((w.alloc (.cells #[.int .i64 0, .int .i64 0, .int .i64 0, .int .i64 0, .int .i64 0, .int .i64 0, .int .i64 0, .int .i64 0, .int .i64 0, .int .i64 0, .bool false, .slice none 0 0, .slice none 0 0, .slice none 0 0, .slice none 0 0, .slice none 0 0, .slice none 0 0, .slice none 0 0] 68)).alloc (.cells #[.int .i64 0, .int .i64 0, .int .i64 0, .int .i64 0, .int .i64 0, .int .i64 0, .int .i64 0, .int .i64 0, .int .i64 0, .int .i64 0, .bool false, .slice none 0 0, .slice none 0 0, .slice none 0 0, .slice none 0 0, .slice none 0 0, .slice none 0 0, .slice none 0 0] 68)).alloc (.cells #[.pointer (some ⟨w.heap.size + 1, 0, none⟩), .pointer (some ⟨w.heap.size + 1, 1, none⟩), .pointer (some ⟨w.heap.size + 1, 2, none⟩), .pointer (some ⟨w.heap.size + 1, 3, none⟩), .pointer (some ⟨w.heap.size + 1, 4, none⟩), .pointer (some ⟨w.heap.size + 1, 5, none⟩), .pointer (some ⟨w.heap.size + 1, 6, none⟩), .pointer (some ⟨w.heap.size + 1, 7, none⟩), .pointer (some ⟨w.heap.size + 1, 8, none⟩), .pointer (some ⟨w.heap.size + 1, 9, none⟩)] 160) := ⟨_, rfl⟩
  rw [← hW] at hP I1 HZ1 ⊢
  clear hW I0 HZ
  have HI0 : Hid (InvN 68 30 r (w.heap.size + 1) s w (w.heap.size + 2) k0 e0 (curX [] 10) W ∧ PtrS (w.heap.size + 2) (w.heap.size + 1) W ∧ W.heap[w.heap.size]? = some (.cells #[.int .i64 0, .int .i64 0, .int .i64 0, .int .i64 0, .int .i64 0, .int .i64 0, .int .i64 0, .int .i64 0, .int .i64 0, .int .i64 0, .bool false, .slice none 0 0, .slice none 0 0, .slice none 0 0, .slice none 0 0, .slice none 0 0, .slice none 0 0, .slice none 0 0] 68 (0, 0)) ∧ Res (manyR rdN 0) s k0 e0 ([] : List Int) k0 e0 ∧ ∀ x ∈ ([] : List Int), I64 x) := Lib.hid ⟨I1, hP, HZ1, Res.many0 _ _ _ _ hk0, by simp⟩
  clear hP I1 HZ1
  go_wp2_with fail
  go_loopw [5] (fun iv wr => ∃ (i j k : Nat) (e : Int) (xs : List Int), iv = .int .i64 (i : Int) ∧ i + j = 10 ∧ xs.length = i ∧ Hid (InvN 68 30 r (w.heap.size + 1) s w (w.heap.size + 2) k e (curX xs j) wr ∧ PtrS (w.heap.size + 2) (w.heap.size + 1) wr ∧ wr.heap[w.heap.size]? = some (.cells #[.int .i64 0, .int .i64 0, .int .i64 0, .int .i64 0, .int .i64 0, .int .i64 0, .int .i64 0, .int .i64 0, .int .i64 0, .int .i64 0, .bool false, .slice none 0 0, .slice none 0 0, .slice none 0 0, .slice none 0 0, .slice none 0 0, .slice none 0 0, .slice none 0 0] 68 (0, 0)) ∧ Res (manyR rdN i) s k0 e0 xs k e ∧ ∀ x ∈ xs, I64 x)) (fun iv _ => 10 - (intOf iv).toNat)
  case atStart => exact ⟨0, 10, k0, e0, [], rfl, rfl, rfl, HI0⟩
  case round =>
    obtain ⟨i, j, k, e, xs, rfl, hij, hxl, HI⟩ := hrel
    clear HI0
    by_cases hlt : i < 10
    · have hlt' : (i : Int) < (10 : Int) := by omega
      have hi0 : (0 : Int) ≤ (i : Int) := by omega
      obtain ⟨jj, rfl⟩ : ∃ jj, j = jj + 1 := ⟨j - 1, by omega⟩
      have wi : IntKind.i64.wrap ((i : Int) + 1) = ((i + 1 : Nat) : Int) := by rw [IntKind.wrap_i64] <;> omega
      have hI := HI.out.1
      have hP := HI.out.2.1
      have hZ := HI.out.2.2.1
      have hpr : w.heap.size + 2 ≠ r := by have := hI.ra; have := hI.gr; omega
      go_upto_region 6 with fail
      refine wp_region_seq (S := fun w' => w'.cell? ⟨w.heap.size + 2, i, none⟩ = some (.pointer (some ⟨w.heap.size + 1, i, none⟩))) [(true, 0), (true, 1), (true, 2), (true, 3), (true, 4), (false, 5), (true, 6), (false, 7)] (by kernel_rfl) (by kernel_rfl) (hP.2 i hlt) ?_
      simp only [pickL, List.getElem?_cons_succ, List.getElem?_cons_zero]
      refine sq_load (.slice (some ⟨w.heap.size + 2, 0, none⟩) 10 10) (fun w' hS => by go_simp) ?_
      simp only [Act.put, List.setIfInBounds_toArray, List.set_cons_zero, List.set_cons_succ]
      refine sq_load (.int .i64 (i : Int)) (fun w' hS => by go_simp) ?_
      simp only [Act.put, List.setIfInBounds_toArray, List.set_cons_zero, List.set_cons_succ]
      refine sq_load (.pointer (some ⟨w.heap.size + 2, i, none⟩)) (fun w' hS => by go_simp) ?_
      simp only [Act.put, List.setIfInBounds_toArray, List.set_cons_zero, List.set_cons_succ]
      refine sq_load (.pointer (some ⟨w.heap.size + 1, i, none⟩)) (fun w' hS => by go_simp) ?_
      simp only [Act.put, List.setIfInBounds_toArray, List.set_cons_zero, List.set_cons_succ]
      refine sq_load (.pointer (some ⟨r, 0, none⟩)) (fun w' hS => by go_simp) ?_
      simp only [Act.put, List.setIfInBounds_toArray, List.set_cons_zero, List.set_cons_succ]
      refine sq_call 17 #[.pointer (some ⟨r, 0, none⟩)] (by go_simp) ?_
      refine Calls.mono (number17_any r k s e _ hI.rdr hI.le (by omega)) ?_
      rintro ex w5 ⟨x, k5, e5, rfl, hx5, hr5, hg, hs5⟩
      replace hI := hI.drew.call hr5 hs5.1 hg
      replace hP := PtrS.grow (w := wr.drew) hP hg hpr
      replace hZ := (hg.block _ (lt_of_blk hZ) (fun q => by injection q with q; have := lt_of_blk hI.rdr; omega)).trans hZ
      clear hr5 hg
      refine ⟨_, rfl, hP.2 i hlt, ?_⟩
      simp only [Act.put, List.setIfInBounds_toArray, List.set_cons_zero, List.set_cons_succ]
      refine sq_load (.pointer (some ⟨w.heap.size + 1, i, none⟩)) (fun w' hS => by go_simp) ?_
      simp only [Act.put, List.setIfInBounds_toArray, List.set_cons_zero, List.set_cons_succ]
      refine sq_store 3 _ _ rfl rfl (w.heap.size + 1) i 68 _ (curX (xs ++ [x]) jj) [.int .i64 x] rfl rfl hI.blk sz3 (one1 rfl) (by rw [← hxl]; exact curX_put xs jj x) (by rw [curX_size]; simp; omega) ?_
      intro w6 hb hg
      replace hI := hI.store hb hg
      replace hP := hP.grow hg (by omega)
      replace hZ := (hg.block _ (lt_of_blk hZ) (fun q => by injection q with q; omega)).trans hZ
      refine ⟨hP.2 i hlt, sq_done ?_⟩
      have HI2 : Hid (InvN 68 30 r (w.heap.size + 1) s w (w.heap.size + 2) k5 e5 (curX (xs ++ [x]) jj) w6 ∧ PtrS (w.heap.size + 2) (w.heap.size + 1) w6 ∧ w6.heap[w.heap.size]? = some (.cells #[.int .i64 0, .int .i64 0, .int .i64 0, .int .i64 0, .int .i64 0, .int .i64 0, .int .i64 0, .int .i64 0, .int .i64 0, .int .i64 0, .bool false, .slice none 0 0, .slice none 0 0, .slice none 0 0, .slice none 0 0, .slice none 0 0, .slice none 0 0, .slice none 0 0] 68 (0, 0)) ∧ Res (manyR rdN (i + 1)) s k0 e0 (xs ++ [x]) k5 e5 ∧ ∀ y ∈ xs ++ [x], I64 y) := Lib.hid ⟨hI, hP, hZ, HI.out.2.2.2.1.snoc_any hs5, by
        intro y hy
        rcases List.mem_append.1 hy with q | q
        · exact HI.out.2.2.2.2 y q
        · rw [List.mem_singleton.1 q]; exact hx5⟩
      clear hI hP hZ hb hg HI
      go_wp2_with fail
      go_roundw
      case rel => exact ⟨i + 1, jj, k5, e5, xs ++ [x], by go_num, by omega, by simp [hxl], HI2⟩
      case measure => simp [intOf]; omega
    · have hlt' : ¬ (i : Int) < (10 : Int) := by omega
      obtain rfl : i = 10 := by omega
      obtain rfl : j = 0 := by omega
      obtain ⟨a0, a1, a2, a3, a4, a5, a6, a7, a8, a9, rfl⟩ := len_10 hxl
      have I1 : InvN 68 30 r (w.heap.size + 1) s w (w.heap.size + 2) k e #[.int .i64 a0, .int .i64 a1, .int .i64 a2, .int .i64 a3, .int .i64 a4, .int .i64 a5, .int .i64 a6, .int .i64 a7, .int .i64 a8, .int .i64 a9, .bool false, .slice none 0 0, .slice none 0 0, .slice none 0 0, .slice none 0 0, .slice none 0 0, .slice none 0 0, .slice none 0 0] wr := HI.out.1
      obtain ⟨k1, hk1⟩ : ∃ q, q = k := ⟨_, rfl⟩
      obtain ⟨e1, he1⟩ : ∃ q, q = e := ⟨_, rfl⟩
      rw [← hk1, ← he1] at I1 HI
      have HZ := HI.out.2.2.1
      have hs1 := HI.out.2.2.2.1
      have hxs := HI.out.2.2.2.2
      clear HI hk1 he1
      have D1 : e1 = 0 → s.size - k1 < n := deep_next D0 hs1
      go_upto_region 7 with fail
      refine wp_region_seq0 (by rfl) ?_
      simp only [List.map]
      refine sq_pure (.pointer (some ⟨r, 0, none⟩)) (by go_simp) trivial ?_
      simp only [Act.put, List.setIfInBounds_toArray, List.set_cons_zero, List.set_cons_succ]
      refine sq_call 93 #[.pointer (some ⟨r, 0, none⟩)] (by go_simp) ?_
      refine Calls.mono (flag93 r k1 s e1 _ I1.rdr I1.le (by omega)) ?_
      rintro e w2 ⟨x2, k2, e2, rfl, h2, hg, hs2⟩
      replace HZ := (hg.block _ (lt_of_blk HZ) (fun q => by injection q with q; omega)).trans HZ
      have I2 := I1.call h2 hs2.1 hg
      clear I1 h2 hg
      have D2 := deep_next D1 hs2
      clear D1
      refine ⟨_, rfl, trivial, ?_⟩
      simp only [Act.put, List.setIfInBounds_toArray, List.set_cons_zero, List.set_cons_succ]
      refine sq_pure (.pointer (some ⟨w.heap.size + 1, 10, none⟩)) (by go_simp) trivial ?_
      simp only [Act.put, List.setIfInBounds_toArray, List.set_cons_zero, List.set_cons_succ]
      refine sq_store 4 _ _ rfl rfl (w.heap.size + 1) 10 68 _ #[.int .i64 a0, .int .i64 a1, .int .i64 a2, .int .i64 a3, .int .i64 a4, .int .i64 a5, .int .i64 a6, .int .i64 a7, .int .i64 a8, .int .i64 a9, .bool x2, .slice none 0 0, .slice none 0 0, .slice none 0 0, .slice none 0 0, .slice none 0 0, .slice none 0 0, .slice none 0 0] [.bool x2] rfl rfl I2.blk sz4 (one1 rfl) (putAll_mid [.int .i64 a0, .int .i64 a1, .int .i64 a2, .int .i64 a3, .int .i64 a4, .int .i64 a5, .int .i64 a6, .int .i64 a7, .int .i64 a8, .int .i64 a9] [.bool false] [.slice none 0 0, .slice none 0 0, .slice none 0 0, .slice none 0 0, .slice none 0 0, .slice none 0 0, .slice none 0 0] [.bool x2] rfl) (by simp) ?_
      intro w' hb hg
      replace HZ := (hg.block _ (lt_of_blk HZ) (fun q => by injection q with q; omega)).trans HZ
      replace I2 := I2.store hb hg
      clear hb hg
      refine ⟨trivial, sq_done ?_⟩
      go_upto_region 8 with fail
      refine wp_region_seq0 (by rfl) ?_
      simp only [List.map]
      refine sq_pure (.pointer (some ⟨r, 0, none⟩)) (by go_simp) trivial ?_
      simp only [Act.put, List.setIfInBounds_toArray, List.set_cons_zero, List.set_cons_succ]
      refine sq_call 27 #[.pointer (some ⟨r, 0, none⟩)] (by go_simp) ?_
      refine Calls.mono (lr_items s hs n r k2 e2 _ I2.rdr I2.le D2) ?_
      rintro e w3 ⟨v3, x3, k3, e3, rfl, hR3, h3, hg, hs3⟩
      obtain ⟨A3, c3, hv3, _, _⟩ := hR3.shape
      subst hv3
      replace HZ := (hg.block _ (lt_of_blk HZ) (fun q => by injection q with q; omega)).trans HZ
      have F3 := Slv.since (stb_it n) hR3 I2.aw
      clear hR3
      have I3 := I2.call h3 hs3.1 hg
      clear I2 h3 hg
      have D3 := deep_next D2 hs3
      clear D2
      refine ⟨_, rfl, trivial, ?_⟩
      simp only [Act.put, List.setIfInBounds_toArray, List.set_cons_zero, List.set_cons_succ]
      refine sq_pure (.pointer (some ⟨w.heap.size + 1, 11, none⟩)) (by go_simp) trivial ?_
      simp only [Act.put, List.setIfInBounds_toArray, List.set_cons_zero, List.set_cons_succ]
      refine sq_store 33 _ _ rfl rfl (w.heap.size + 1) 11 68 _ #[.int .i64 a0, .int .i64 a1, .int .i64 a2, .int .i64 a3, .int .i64 a4, .int .i64 a5, .int .i64 a6, .int .i64 a7, .int .i64 a8, .int .i64 a9, .bool x2, .slice A3 x3.length c3, .slice none 0 0, .slice none 0 0, .slice none 0 0, .slice none 0 0, .slice none 0 0, .slice none 0 0] [.slice A3 x3.length c3] rfl rfl I3.blk sz33 (one1 rfl) (putAll_mid [.int .i64 a0, .int .i64 a1, .int .i64 a2, .int .i64 a3, .int .i64 a4, .int .i64 a5, .int .i64 a6, .int .i64 a7, .int .i64 a8, .int .i64 a9, .bool x2] [.slice none 0 0] [.slice none 0 0, .slice none 0 0, .slice none 0 0, .slice none 0 0, .slice none 0 0, .slice none 0 0] [.slice A3 x3.length c3] rfl) (by simp) ?_
      intro w' hb hg
      replace F3 := Slv.grow (stb_it n) F3 hg (I3.ga)
      replace HZ := (hg.block _ (lt_of_blk HZ) (fun q => by injection q with q; omega)).trans HZ
      replace I3 := I3.store hb hg
      clear hb hg
      refine ⟨trivial, sq_done ?_⟩
      go_upto_region 9 with fail
      refine wp_region_seq0 (by rfl) ?_
      simp only [List.map]
      refine sq_pure (.pointer (some ⟨r, 0, none⟩)) (by go_simp) trivial ?_
      simp only [Act.put, List.setIfInBounds_toArray, List.set_cons_zero, List.set_cons_succ]
      refine sq_call 76 #[.pointer (some ⟨r, 0, none⟩)] (by go_simp) ?_
      refine Calls.mono (lr76 (itP n) (itR n) (stb_it n) n s hs (lr_items s hs n) r k3 e3 _ I3.rdr I3.le D3) ?_
      rintro e w4 ⟨v4, x4, k4, e4, rfl, hR4, h4, hg, hs4⟩
      obtain ⟨A4, c4, hv4, _, _⟩ := hR4.shape
      subst hv4
      replace F3 := Slv.grow (stb_it n) F3 hg (I3.ra)
      replace HZ := (hg.block _ (lt_of_blk HZ) (fun q => by injection q with q; omega)).trans HZ
      have F4 := Slv.since (stb_rw (stb_it n)) hR4 I3.aw
      clear hR4
      have I4 := I3.call h4 hs4.1 hg
      clear I3 h4 hg
      have D4 := deep_next D3 hs4
      clear D3
      refine ⟨_, rfl, trivial, ?_⟩
      simp only [Act.put, List.setIfInBounds_toArray, List.set_cons_zero, List.set_cons_succ]
      refine sq_pure (.pointer (some ⟨w.heap.size + 1, 12, none⟩)) (by go_simp) trivial ?_
      simp only [Act.put, List.setIfInBounds_toArray, List.set_cons_zero, List.set_cons_succ]
      refine sq_store 51 _ _ rfl rfl (w.heap.size + 1) 12 68 _ #[.int .i64 a0, .int .i64 a1, .int .i64 a2, .int .i64 a3, .int .i64 a4, .int .i64 a5, .int .i64 a6, .int .i64 a7, .int .i64 a8, .int .i64 a9, .bool x2, .slice A3 x3.length c3, .slice A4 x4.length c4, .slice none 0 0, .slice none 0 0, .slice none 0 0, .slice none 0 0, .slice none 0 0] [.slice A4 x4.length c4] rfl rfl I4.blk sz51 (one1 rfl) (putAll_mid [.int .i64 a0, .int .i64 a1, .int .i64 a2, .int .i64 a3, .int .i64 a4, .int .i64 a5, .int .i64 a6, .int .i64 a7, .int .i64 a8, .int .i64 a9, .bool x2, .slice A3 x3.length c3] [.slice none 0 0] [.slice none 0 0, .slice none 0 0, .slice none 0 0, .slice none 0 0, .slice none 0 0] [.slice A4 x4.length c4] rfl) (by simp) ?_
      intro w' hb hg
      replace F3 := Slv.grow (stb_it n) F3 hg (I4.ga)
      replace F4 := Slv.grow (stb_rw (stb_it n)) F4 hg (I4.ga)
      replace HZ := (hg.block _ (lt_of_blk HZ) (fun q => by injection q with q; omega)).trans HZ
      replace I4 := I4.store hb hg
      clear hb hg
      refine ⟨trivial, sq_done ?_⟩
      go_upto_region 10 with fail
      refine wp_region_seq0 (by rfl) ?_
      simp only [List.map]
      refine sq_pure (.pointer (some ⟨r, 0, none⟩)) (by go_simp) trivial ?_
      simp only [Act.put, List.setIfInBounds_toArray, List.set_cons_zero, List.set_cons_succ]
      refine sq_call 94 #[.pointer (some ⟨r, 0, none⟩)] (by go_simp) ?_
      refine Calls.mono (lr94 (itP n) (itR n) (stb_it n) n s hs (lr_items s hs n) r k4 e4 _ I4.rdr I4.le D4) ?_
      rintro e w5 ⟨v5, x5, k5, e5, rfl, hR5, h5, hg, hs5⟩
      obtain ⟨A5, c5, hv5, _, _⟩ := hR5.shape
      subst hv5
      replace F3 := Slv.grow (stb_it n) F3 hg (I4.ra)
      replace F4 := Slv.grow (stb_rw (stb_it n)) F4 hg (I4.ra)
      replace HZ := (hg.block _ (lt_of_blk HZ) (fun q => by injection q with q; omega)).trans HZ
      have F5 := Slv.since (stb_ce (stb_it n)) hR5 I4.aw
      clear hR5
      have I5 := I4.call h5 hs5.1 hg
      clear I4 h5 hg
      have D5 := deep_next D4 hs5
      clear D4
      refine ⟨_, rfl, trivial, ?_⟩
      simp only [Act.put, List.setIfInBounds_toArray, List.set_cons_zero, List.set_cons_succ]
      refine sq_pure (.pointer (some ⟨w.heap.size + 1, 13, none⟩)) (by go_simp) trivial ?_
      simp only [Act.put, List.setIfInBounds_toArray, List.set_cons_zero, List.set_cons_succ]
      refine sq_store 66 _ _ rfl rfl (w.heap.size + 1) 13 68 _ #[.int .i64 a0, .int .i64 a1, .int .i64 a2, .int .i64 a3, .int .i64 a4, .int .i64 a5, .int .i64 a6, .int .i64 a7, .int .i64 a8, .int .i64 a9, .bool x2, .slice A3 x3.length c3, .slice A4 x4.length c4, .slice A5 x5.length c5, .slice none 0 0, .slice none 0 0, .slice none 0 0, .slice none 0 0] [.slice A5 x5.length c5] rfl rfl I5.blk sz66 (one1 rfl) (putAll_mid [.int .i64 a0, .int .i64 a1, .int .i64 a2, .int .i64 a3, .int .i64 a4, .int .i64 a5, .int .i64 a6, .int .i64 a7, .int .i64 a8, .int .i64 a9, .bool x2, .slice A3 x3.length c3, .slice A4 x4.length c4] [.slice none 0 0] [.slice none 0 0, .slice none 0 0, .slice none 0 0, .slice none 0 0] [.slice A5 x5.length c5] rfl) (by simp) ?_
      intro w' hb hg
      replace F3 := Slv.grow (stb_it n) F3 hg (I5.ga)
      replace F4 := Slv.grow (stb_rw (stb_it n)) F4 hg (I5.ga)
      replace F5 := Slv.grow (stb_ce (stb_it n)) F5 hg (I5.ga)
      replace HZ := (hg.block _ (lt_of_blk HZ) (fun q => by injection q with q; omega)).trans HZ
      replace I5 := I5.store hb hg
      clear hb hg
      refine ⟨trivial, sq_done ?_⟩
      go_upto_region 11 with fail
      refine wp_region_seq0 (by rfl) ?_
      simp only [List.map]
      refine sq_pure (.pointer (some ⟨r, 0, none⟩)) (by go_simp) trivial ?_
      simp only [Act.put, List.setIfInBounds_toArray, List.set_cons_zero, List.set_cons_succ]
      refine sq_call 95 #[.pointer (some ⟨r, 0, none⟩)] (by go_simp) ?_
      refine Calls.mono (lr95 r k5 s e5 _ I5.rdr I5.le hs) ?_
      rintro e w6 ⟨vs6, x6, k6, e6, rfl, hl6, ho6, hR6, h6, hg, hs6⟩
      obtain ⟨u6_0, u6_1, u6_2, u6_3, rfl⟩ := len_4 hl6
      replace F3 := Slv.grow (stb_it n) F3 hg (I5.ra)
      replace F4 := Slv.grow (stb_rw (stb_it n)) F4 hg (I5.ra)
      replace F5 := Slv.grow (stb_ce (stb_it n)) F5 hg (I5.ra)
      replace HZ := (hg.block _ (lt_of_blk HZ) (fun q => by injection q with q; omega)).trans HZ
      have F6 := Stb.since stb_stg hR6 I5.aw
      clear hR6
      have I6 := I5.call h6 hs6.1 hg
      clear I5 h6 hg
      have D6 := deep_next D5 hs6
      clear D5
      refine ⟨_, rfl, trivial, ?_⟩
      simp only [Act.put, List.setIfInBounds_toArray, List.set_cons_zero, List.set_cons_succ]
      refine sq_pure (.pointer (some ⟨w.heap.size + 1, 14, none⟩)) (by go_simp) trivial ?_
      simp only [Act.put, List.setIfInBounds_toArray, List.set_cons_zero, List.set_cons_succ]
      refine sq_store 47 _ _ rfl rfl (w.heap.size + 1) 14 68 _ #[.int .i64 a0, .int .i64 a1, .int .i64 a2, .int .i64 a3, .int .i64 a4, .int .i64 a5, .int .i64 a6, .int .i64 a7, .int .i64 a8, .int .i64 a9, .bool x2, .slice A3 x3.length c3, .slice A4 x4.length c4, .slice A5 x5.length c5, u6_0, u6_1, u6_2, u6_3] [u6_0, u6_1, u6_2, u6_3] rfl rfl I6.blk sz47 ho6 (putAll_mid [.int .i64 a0, .int .i64 a1, .int .i64 a2, .int .i64 a3, .int .i64 a4, .int .i64 a5, .int .i64 a6, .int .i64 a7, .int .i64 a8, .int .i64 a9, .bool x2, .slice A3 x3.length c3, .slice A4 x4.length c4, .slice A5 x5.length c5] [.slice none 0 0, .slice none 0 0, .slice none 0 0, .slice none 0 0] [] [u6_0, u6_1, u6_2, u6_3] rfl) (by simp) ?_
      intro w' hb hg
      replace F3 := Slv.grow (stb_it n) F3 hg (I6.ga)
      replace F4 := Slv.grow (stb_rw (stb_it n)) F4 hg (I6.ga)
      replace F5 := Slv.grow (stb_ce (stb_it n)) F5 hg (I6.ga)
      replace F6 := Stb.grow stb_stg hg (I6.ga) F6
      replace HZ := (hg.block _ (lt_of_blk HZ) (fun q => by injection q with q; omega)).trans HZ
      replace I6 := I6.store hb hg
      clear hb hg
      refine ⟨trivial, sq_done ?_⟩
      have FR : edP n _ (Since (w.heap.size + 2) _) [.int .i64 a0, .int .i64 a1, .int .i64 a2, .int .i64 a3, .int .i64 a4, .int .i64 a5, .int .i64 a6, .int .i64 a7, .int .i64 a8, .int .i64 a9, .bool x2, .slice A3 x3.length c3, .slice A4 x4.length c4, .slice A5 x5.length c5, u6_0, u6_1, u6_2, u6_3] ([a0, a1, a2, a3, a4, a5, a6, a7, a8, a9], x2, x3, x4, x5, x6) := ⟨_, _, _, _, _, _, _, rfl, ⟨rfl, hxs⟩, F3, F4, F5, F6⟩
      have hone := (one_ed n) _ _ _ _ FR
      clear F3 F4 F5 F6
      go_upto_region 12 with fail
      refine wp_region_seq0 (by rfl) ?_
      simp only [List.map]
      refine sq_load_row 68 _ rfl (w.heap.size + 1) 68 #[.int .i64 a0, .int .i64 a1, .int .i64 a2, .int .i64 a3, .int .i64 a4, .int .i64 a5, .int .i64 a6, .int .i64 a7, .int .i64 a8, .int .i64 a9, .bool x2, .slice A3 x3.length c3, .slice A4 x4.length c4, .slice A5 x5.length c5, u6_0, u6_1, u6_2, u6_3] _ rfl I6.blk Tryz.underlying68 rfl size68 trivial ?_
      simp only [Act.put, List.setIfInBounds_toArray, List.set_cons_zero, List.set_cons_succ]
      refine sq_store_row 68 _ _ rfl rfl (w.heap.size) 68 _ [.int .i64 a0, .int .i64 a1, .int .i64 a2, .int .i64 a3, .int .i64 a4, .int .i64 a5, .int .i64 a6, .int .i64 a7, .int .i64 a8, .int .i64 a9, .bool x2, .slice A3 x3.length c3, .slice A4 x4.length c4, .slice A5 x5.length c5, u6_0, u6_1, u6_2, u6_3] rfl rfl HZ size68 hone rfl ?_
      intro w' hb hg
      have hR2 := Stb.grow (stb_ed n) hg (by omega) FR
      have hr2 := (hg.block r (lt_of_blk I6.rdr) (fun q => by injection q with q; omega)).trans I6.rdr
      have hG2 : w.grownBy w' (some r) := ⟨hg.os.trans I6.grown.os, hg.tape.trans I6.grown.tape, hg.output.trans I6.grown.output, Nat.le_trans I6.grown.size hg.size, fun i hi hn => (hg.block i (Nat.lt_of_lt_of_le hi I6.grown.size) (fun q => by injection q with q; omega)).trans (I6.grown.block i hi hn)⟩
      refine ⟨trivial, sq_done ?_⟩
      clear hg
      go_wp2_with fail
      refine bodyPost_ret (v := .agg #[.int .i64 a0, .int .i64 a1, .int .i64 a2, .int .i64 a3, .int .i64 a4, .int .i64 a5, .int .i64 a6, .int .i64 a7, .int .i64 a8, .int .i64 a9, .bool x2, .slice A3 x3.length c3, .slice A4 x4.length c4, .slice A5 x5.length c5, u6_0, u6_1, u6_2, u6_3]) (results_cell_row rfl _ _ (w.heap.size) 68 #[.int .i64 a0, .int .i64 a1, .int .i64 a2, .int .i64 a3, .int .i64 a4, .int .i64 a5, .int .i64 a6, .int .i64 a7, .int .i64 a8, .int .i64 a9, .bool x2, .slice A3 x3.length c3, .slice A4 x4.length c4, .slice A5 x5.length c5, u6_0, u6_1, u6_2, u6_3] (0, 0) _ rfl hb Tryz.underlying68 rfl size68) rfl ?_
      exact ⟨[.int .i64 a0, .int .i64 a1, .int .i64 a2, .int .i64 a3, .int .i64 a4, .int .i64 a5, .int .i64 a6, .int .i64 a7, .int .i64 a8, .int .i64 a9, .bool x2, .slice A3 x3.length c3, .slice A4 x4.length c4, .slice A5 x5.length c5, u6_0, u6_1, u6_2, u6_3], ([a0, a1, a2, a3, a4, a5, a6, a7, a8, a9], x2, x3, x4, x5, x6), k6, e6, rfl, rfl, hone, Stb.since (stb_ed n) hR2 (by omega), hr2, hG2, (hs1.seq (hs2.seq (hs3.seq (hs4.seq (hs5.seq hs6)))))⟩
end Go.Proofs.YtmhhcfceikcfbaaGreat
