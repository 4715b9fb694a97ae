/- The trees of edits and splices. -/
import Derived.Test.YtmhhcfceikcfbaaGreatRx
import Derived.Test.YtmhhcfceikcfbaaGreatR11
import Derived.Test.YtmhhcfceikcfbaaGreatW8
import Derived.Test.YtmhhcfceikcfbaaGreatW1
namespace Go.Proofs.YtmhhcfceikcfbaaGreat
open Go.RowKit

abbrev Sp (n : Nat) := Int × Int × Int × Int × Pc n × Pc n
def spE (n : Nat) : Sp n → List Nat := seqE encN (seqE encN (seqE encN (seqE encN (seqE (pcE n) (pcE n)))))
def spR (n : Nat) : Rd (Sp n) := seqR rdN (seqR rdN (seqR rdN (seqR rdN (seqR (pcR n) (pcR n)))))
def spP (n : Nat) : Rp (Sp n) := fun w G vs x => ∃ a b : List Value, vs = [.int .i64 x.1, .int .i64 x.2.1, .int .i64 x.2.2.1, .int .i64 x.2.2.2.1] ++ (a ++ b) ∧ a.length = 12 ∧ (I64 x.1 ∧ I64 x.2.1 ∧ I64 x.2.2.1 ∧ I64 x.2.2.2.1) ∧ pcP n w G a x.2.2.2.2.1 ∧ pcP n w G b x.2.2.2.2.2
theorem stb_sp (n : Nat) : Stb (spP n) := by
  rintro w w' G G' vs x hG hb ⟨a, b, e, hl, i1, h1, h2⟩
  exact ⟨a, b, e, hl, i1, stb_pc n _ _ _ _ _ _ hG hb h1, stb_pc n _ _ _ _ _ _ hG hb h2⟩
theorem one_sp (n : Nat) : One (spP n) := by
  rintro w G vs x ⟨a, b, rfl, _, _, h1, h2⟩ u hu
  rcases List.mem_append.1 hu with hu | hu
  · simp only [List.mem_cons, List.not_mem_nil, or_false] at hu
    rcases hu with rfl | rfl | rfl | rfl <;> rfl
  · rcases List.mem_append.1 hu with hu | hu
    · exact one_pc n _ _ _ _ h1 u hu
    · exact one_pc n _ _ _ _ h2 u hu
theorem size77 : (Tryz.prog.info? 77).map (·.size) = some 28 := by kernel_rfl
theorem sz75 : (Tryz.prog.info? 75).map (·.size) = some 12 := size75

abbrev Ed (n : Nat) := List Int × Bool × List (It n) × List (Rw n) × List (Ce n) × Stg
def tenE (l : List Int) : List Nat := l.flatMap encN
def edE (n : Nat) : Ed n → List Nat := seqE tenE (seqE flagE (seqE (listE (itE n)) (seqE (listE (rwE (itE n))) (seqE (listE (ceE (itE n))) stgE))))
def edR (n : Nat) : Rd (Ed n) := seqR (manyR rdN 10) (seqR flagR (seqR (listR (itR n)) (seqR (listR (rwR (itR n))) (seqR (listR (ceR (itR n))) stgR))))
def edP (n : Nat) : Rp (Ed n) := fun w G vs x => ∃ fv rv cv s0 s1 s2 s3, vs = x.1.map intV ++ [.bool x.2.1, fv, rv, cv, s0, s1, s2, s3] ∧ (x.1.length = 10 ∧ ∀ y ∈ x.1, I64 y) ∧ Slv (itP n) 11 w G fv x.2.2.1 ∧ Slv (rwP (itP n)) 6 w G rv x.2.2.2.1 ∧ Slv (ceP (itP n)) 7 w G cv x.2.2.2.2.1 ∧ stgP w G [s0, s1, s2, s3] x.2.2.2.2.2
theorem stb_ed (n : Nat) : Stb (edP n) := by
  rintro w w' G G' vs x hG hb ⟨fv, rv, cv, s0, s1, s2, s3, e, i1, h1, h2, h3, h4⟩
  exact ⟨fv, rv, cv, s0, s1, s2, s3, e, i1, h1.stb (stb_it n) hG hb, h2.stb (stb_rw (stb_it n)) hG hb, h3.stb (stb_ce (stb_it n)) hG hb, stb_stg _ _ _ _ _ _ hG hb h4⟩
theorem one_ed (n : Nat) : One (edP n) := by
  rintro w G vs x ⟨fv, rv, cv, s0, s1, s2, s3, rfl, _, h1, h2, h3, h4⟩ u hu
  rcases List.mem_append.1 hu with hu | hu
  · obtain ⟨y, _, rfl⟩ := List.mem_map.1 hu
    rfl
  · rcases List.mem_append.1 (show u ∈ [Value.bool x.2.1, fv, rv, cv] ++ [s0, s1, s2, s3] from hu) with hu | hu
    · simp only [List.mem_cons, List.not_mem_nil, or_false] at hu
      rcases hu with rfl | rfl | rfl | rfl
      · rfl
      · exact h1.one
      · exact h2.one
      · exact h3.one
    · exact one_stg _ _ _ _ h4 u hu
theorem size68 : (Tryz.prog.info? 68).map (·.size) = some 18 := by kernel_rfl
def tail68 : List Value := [.bool false, .slice none 0 0, .slice none 0 0, .slice none 0 0, .slice none 0 0, .slice none 0 0, .slice none 0 0, .slice none 0 0]
/-- The numbers so far, the zeros behind, the rest. -/
def curX (xs : List Int) (j : Nat) : Array Value := (xs.map intV ++ (List.replicate j (intV 0) ++ tail68)).toArray
theorem curX_put (xs : List Int) (j : Nat) (x : Int) : putAll (curX xs (j + 1)) xs.length [intV x] = curX (xs ++ [x]) j := by
  have h := putAll_mid (xs.map intV) [intV 0] (List.replicate j (intV 0) ++ tail68) [intV x] rfl
  rw [List.length_map] at h
  unfold curX
  rw [List.map_append, List.append_assoc]
  exact h
theorem curX_size (xs : List Int) (j : Nat) : (curX xs j).size = xs.length + j + 8 := by
  unfold curX tail68
  simp
  omega
/-- Pointers to the first ten cells. -/
def PtrS (p g : Nat) (w : World) : Prop := p < w.heap.size ∧ ∀ i, i < 10 → w.cell? ⟨p, i, none⟩ = some (.pointer (some ⟨g, i, none⟩))
theorem PtrS.grow {p g q : Nat} {w w' : World} (h : PtrS p g w) (hg : w.grownBy w' (some q)) (hq : p ≠ q) : PtrS p g w' :=
  ⟨Nat.lt_of_lt_of_le h.1 hg.size, fun i hi => (World.cell?_of_block (a := ⟨p, i, none⟩) (hg.block p h.1 (fun e => hq (by injection e)))).trans (h.2 i hi)⟩
theorem Res.snoc_any {α : Type} {p : Rd α} {s : ByteArray} {k k1 k2 i : Nat} {e e1 e2 : Int} {l : List α} {x : α} (h : Res (manyR p i) s k e l k1 e1) (g : Res p s k1 e1 x k2 e2) : Res (manyR p (i + 1)) s k e (l ++ [x]) k2 e2 := by
  rcases Int.decEq e1 0 with q | q
  · have h2 := g.2.1 q
    subst h2
    refine ⟨g.1, h.2.1, fun h0 => ?_⟩
    have h3 := h.2.2 h0
    rw [many_snoc]
    cases hq : manyR p i ((bytesN s).drop k) with
    | ok y n => rw [hq] at h3; exact absurd h3.2.2 q
    | err E => rw [hq] at h3; exact h3
  · subst q
    exact h.snoc g
theorem len_10 {vs : List Int} (h : vs.length = 10) : ∃ a0 a1 a2 a3 a4 a5 a6 a7 a8 a9, vs = [a0, a1, a2, a3, a4, a5, a6, a7, a8, a9] := by
  match vs, h with
  | [a0, a1, a2, a3, a4, a5, a6, a7, a8, a9], _ => exact ⟨_, _, _, _, _, _, _, _, _, _, rfl⟩
end Go.Proofs.YtmhhcfceikcfbaaGreat
