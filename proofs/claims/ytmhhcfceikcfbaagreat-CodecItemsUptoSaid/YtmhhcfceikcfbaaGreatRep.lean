/- Words for memory: the trees of a document. -/
import Derived.Test.YtmhhcfceikcfbaaGreatLib
import Derived.Test.YtmhhcfceikcfbaaGreatPl
import Derived.Laws.Tables
namespace Go.Proofs.YtmhhcfceikcfbaaGreat
open Go.RowKit

/-- How cells stand for a value: in a world, their slices in certain blocks. -/
abbrev Rp (α : Type) := World → (Nat → Prop) → List Value → α → Prop
def Slv {α : Type} (R : Rp α) (sz : Nat) (w : World) (G : Nat → Prop) (v : Value) (l : List α) : Prop :=
  ∃ A c, v = .slice A l.length c ∧ l.length ≤ c ∧ c ≤ maxLen ∧ (0 < l.length → ∃ b o, A = some ⟨b, o, none⟩ ∧ G b ∧ b < w.heap.size ∧
    ∀ (i : Nat) (x : α), l[i]? = some x → ∃ vs : List Value, vs.length = sz ∧ R w G vs x ∧ ∀ (j : Nat) (u : Value), vs[j]? = some u → w.cell? ⟨b, o + i * sz + j, none⟩ = some u)
/-- What stands so stands on where those blocks are as they were. -/
def Stb {α : Type} (R : Rp α) : Prop := ∀ (w w' : World) (G G' : Nat → Prop) (vs : List Value) (x : α), (∀ b, G b → G' b) → (∀ b, G b → b < w.heap.size → w'.heap[b]? = w.heap[b]?) → R w G vs x → R w' G' vs x
theorem heap_lt_of_eq {w w' : World} {b : Nat} (hb : b < w.heap.size) (h : w'.heap[b]? = w.heap[b]?) : b < w'.heap.size := by
  rw [Array.getElem?_eq_getElem hb] at h
  exact (Array.getElem?_eq_some_iff.1 h).1
theorem Slv.stb {α : Type} {R : Rp α} {sz : Nat} (hR : Stb R) {w w' : World} {G G' : Nat → Prop} {v : Value} {l : List α} (hG : ∀ b, G b → G' b) (hb : ∀ b, G b → b < w.heap.size → w'.heap[b]? = w.heap[b]?) (h : Slv R sz w G v l) : Slv R sz w' G' v l := by
  obtain ⟨A, c, rfl, h1, h2, h3⟩ := h
  refine ⟨A, c, rfl, h1, h2, fun hn => ?_⟩
  obtain ⟨b, o, rfl, hg, hlt, hc⟩ := h3 hn
  have hbb := hb b hg hlt
  refine ⟨b, o, rfl, hG b hg, heap_lt_of_eq hlt hbb, fun i x hx => ?_⟩
  obtain ⟨vs, k1, k2, k3⟩ := hc i x hx
  exact ⟨vs, k1, hR w w' G G' vs x hG hb k2, fun j u hu => (World.cell?_of_block (a := ⟨b, o + i * sz + j, none⟩) hbb).trans (k3 j u hu)⟩
theorem Slv.nil {α : Type} {R : Rp α} {sz : Nat} (w : World) (G : Nat → Prop) : Slv R sz w G (.slice none 0 0) ([] : List α) := ⟨none, 0, rfl, by simp, by simp [maxLen], fun h => by simp at h⟩
/-- An element's cells. -/
theorem Slv.at {α : Type} {R : Rp α} {sz : Nat} {w : World} {G : Nat → Prop} {A : Option Addr} {n c : Nat} {l : List α} (h : Slv R sz w G (.slice A n c) l) (k : Nat) (x : α) (hk : l[k]? = some x) :
    ∃ b o vs, A = some ⟨b, o, none⟩ ∧ G b ∧ b < w.heap.size ∧ vs.length = sz ∧ R w G vs x ∧ ∀ (j : Nat) (u : Value), vs[j]? = some u → w.cell? ⟨b, o + k * sz + j, none⟩ = some u := by
  obtain ⟨A', c', hv, h1, h2, h3⟩ := h
  injection hv with e1 e2 e3
  subst e1 e2 e3
  obtain ⟨b, o, rfl, hg, hb, hc⟩ := h3 (by have := (List.getElem?_eq_some_iff.1 hk).1; omega)
  obtain ⟨vs, k1, k2, k3⟩ := hc k x hk
  exact ⟨b, o, vs, rfl, hg, hb, k1, k2, k3⟩
theorem Slv.shape {α : Type} {R : Rp α} {sz : Nat} {w : World} {G : Nat → Prop} {v : Value} {l : List α} (h : Slv R sz w G v l) : ∃ A c, v = .slice A l.length c ∧ l.length ≤ c ∧ c ≤ maxLen := by
  obtain ⟨A, c, rfl, h1, h2, h3⟩ := h
  exact ⟨A, c, rfl, h1, h2⟩

def twoP : Rp Two := fun _ _ vs x => vs = [.int .i64 x.1, .int .i64 x.2] ∧ twoD x
def layP : Rp Lay := fun _ _ vs x => vs = [.int .i64 x.1, .int .i64 x.2.1, .int .i64 x.2.2.1, .bool x.2.2.2] ∧ layD x
def hdP : Rp Hd := fun w G vs x => ∃ pv dv lv, vs = [pv, .int .i64 x.2.1, .int .i64 x.2.2.1, dv, lv] ∧ I64 x.2.1 ∧ I64 x.2.2.1 ∧ Slv twoP 2 w G pv x.1 ∧ Slv twoP 2 w G dv x.2.2.2.1 ∧ Slv layP 4 w G lv x.2.2.2.2
def lvlP : Rp Lvl := fun _ _ vs x => vs = [.int .i64 x.1, .int .i64 x.2.1, .string x.2.2.1, .int .i64 x.2.2.2] ∧ lvlD x
def styP : Rp Sty := fun w G vs x => ∃ pv, vs = [.int .i64 x.1, .int .i64 x.2.1, .string x.2.2.1, .int .i64 x.2.2.2.1, .int .i64 x.2.2.2.2.1, pv] ∧ (I64 x.1 ∧ I64 x.2.1 ∧ szD x.2.2.1 ∧ I64 x.2.2.2.1 ∧ I64 x.2.2.2.2.1) ∧ Slv twoP 2 w G pv x.2.2.2.2.2
def lstP : Rp Lst := fun w G vs x => ∃ pv, vs = [.int .i64 x.1, pv] ∧ I64 x.1 ∧ Slv lvlP 4 w G pv x.2
def cmtP : Rp Cmt := fun _ _ vs x => vs = [.int .i64 x.1, .int .i64 x.2.1, .string x.2.2.1, .int .i64 x.2.2.2.1, .string x.2.2.2.2.1, .bool x.2.2.2.2.2] ∧ cmtD x
def vrP : Rp Vr := fun _ _ vs x => vs = [.string x.1, .string x.2] ∧ vrD x
def revP : Rp Rev := fun _ _ vs x => vs = [.int .i64 x.1, .string x.2.1, .int .i64 x.2.2] ∧ revD x
section
variable {α : Type}
def ceP (R : Rp α) : Rp (Int × Hd × List α) := fun w G vs x => ∃ h0 h1 h2 h3 h4 fv, vs = [.int .i64 x.1, h0, h1, h2, h3, h4, fv] ∧ I64 x.1 ∧ hdP w G [h0, h1, h2, h3, h4] x.2.1 ∧ Slv R 11 w G fv x.2.2
def rwP (R : Rp α) : Rp (Hd × List (Int × Hd × List α)) := fun w G vs x => ∃ h0 h1 h2 h3 h4 cv, vs = [h0, h1, h2, h3, h4, cv] ∧ hdP w G [h0, h1, h2, h3, h4] x.1 ∧ Slv (ceP R) 7 w G cv x.2
def isP (R : Rp α) : Rp (ItS α) := fun w G vs x => ∃ h0 h1 h2 h3 h4 fv rv, vs = [.int .i64 x.1, .int .i64 x.2.1, .int .i64 x.2.2.1, .string x.2.2.2.1, h0, h1, h2, h3, h4, fv, rv] ∧ (I64 x.1 ∧ I64 x.2.1 ∧ I64 x.2.2.1 ∧ szD x.2.2.2.1) ∧
  hdP w G [h0, h1, h2, h3, h4] x.2.2.2.2.1 ∧ Slv R 11 w G fv x.2.2.2.2.2.1 ∧ Slv (rwP R) 6 w G rv x.2.2.2.2.2.2
end
def itP : (n : Nat) → Rp (It n)
  | 0 => fun _ _ _ x => Empty.elim x
  | n + 1 => isP (itP n)
theorem stb_two : Stb twoP := fun _ _ _ _ _ _ _ _ h => h
theorem stb_lay : Stb layP := fun _ _ _ _ _ _ _ _ h => h
theorem stb_lvl : Stb lvlP := fun _ _ _ _ _ _ _ _ h => h
theorem stb_cmt : Stb cmtP := fun _ _ _ _ _ _ _ _ h => h
theorem stb_vr : Stb vrP := fun _ _ _ _ _ _ _ _ h => h
theorem stb_rev : Stb revP := fun _ _ _ _ _ _ _ _ h => h
theorem stb_hd : Stb hdP := by
  rintro w w' G G' vs x hG hb ⟨pv, dv, lv, e, i1, i2, h1, h2, h3⟩
  exact ⟨pv, dv, lv, e, i1, i2, h1.stb stb_two hG hb, h2.stb stb_two hG hb, h3.stb stb_lay hG hb⟩
theorem stb_sty : Stb styP := by
  rintro w w' G G' vs x hG hb ⟨pv, e, i1, h1⟩
  exact ⟨pv, e, i1, h1.stb stb_two hG hb⟩
theorem stb_lst : Stb lstP := by
  rintro w w' G G' vs x hG hb ⟨pv, e, i1, h1⟩
  exact ⟨pv, e, i1, h1.stb stb_lvl hG hb⟩
section
variable {α : Type} {R : Rp α}
theorem stb_ce (hR : Stb R) : Stb (ceP R) := by
  rintro w w' G G' vs x hG hb ⟨h0, h1, h2, h3, h4, fv, e, i1, k1, k2⟩
  exact ⟨h0, h1, h2, h3, h4, fv, e, i1, stb_hd _ _ _ _ _ _ hG hb k1, k2.stb hR hG hb⟩
theorem stb_rw (hR : Stb R) : Stb (rwP R) := by
  rintro w w' G G' vs x hG hb ⟨h0, h1, h2, h3, h4, fv, e, k1, k2⟩
  exact ⟨h0, h1, h2, h3, h4, fv, e, stb_hd _ _ _ _ _ _ hG hb k1, k2.stb (stb_ce hR) hG hb⟩
theorem stb_is (hR : Stb R) : Stb (isP R) := by
  rintro w w' G G' vs x hG hb ⟨h0, h1, h2, h3, h4, fv, rv, e, i1, k1, k2, k3⟩
  exact ⟨h0, h1, h2, h3, h4, fv, rv, e, i1, stb_hd _ _ _ _ _ _ hG hb k1, k2.stb hR hG hb, k3.stb (stb_rw hR) hG hb⟩
end
theorem stb_it : ∀ n, Stb (itP n)
  | 0 => fun _ _ _ _ _ x => Empty.elim x
  | n + 1 => stb_is (stb_it n)
/-- Single cells. -/
def One {α : Type} (R : Rp α) : Prop := ∀ (w : World) (G : Nat → Prop) (vs : List Value) (x : α), R w G vs x → ∀ u ∈ vs, u.oneCell' = true
theorem Slv.one {α : Type} {R : Rp α} {sz : Nat} {w : World} {G : Nat → Prop} {v : Value} {l : List α} (h : Slv R sz w G v l) : v.oneCell' = true := by
  obtain ⟨A, c, rfl, _, _⟩ := h.shape
  rfl
theorem one_two : One twoP := by
  rintro w G vs x ⟨rfl, _⟩ u hu
  simp only [List.mem_cons, List.not_mem_nil, or_false] at hu
  rcases hu with rfl | rfl <;> rfl
theorem one_lay : One layP := by
  rintro w G vs x ⟨rfl, _⟩ u hu
  simp only [List.mem_cons, List.not_mem_nil, or_false] at hu
  rcases hu with rfl | rfl | rfl | rfl <;> rfl
theorem one_lvl : One lvlP := by
  rintro w G vs x ⟨rfl, _⟩ u hu
  simp only [List.mem_cons, List.not_mem_nil, or_false] at hu
  rcases hu with rfl | rfl | rfl | rfl <;> rfl
theorem one_cmt : One cmtP := by
  rintro w G vs x ⟨rfl, _⟩ u hu
  simp only [List.mem_cons, List.not_mem_nil, or_false] at hu
  rcases hu with rfl | rfl | rfl | rfl | rfl | rfl <;> rfl
theorem one_vr : One vrP := by
  rintro w G vs x ⟨rfl, _⟩ u hu
  simp only [List.mem_cons, List.not_mem_nil, or_false] at hu
  rcases hu with rfl | rfl <;> rfl
theorem one_rev : One revP := by
  rintro w G vs x ⟨rfl, _⟩ u hu
  simp only [List.mem_cons, List.not_mem_nil, or_false] at hu
  rcases hu with rfl | rfl | rfl <;> rfl
theorem one_hd : One hdP := by
  rintro w G vs x ⟨pv, dv, lv, rfl, _, _, h1, h2, h3⟩ u hu
  simp only [List.mem_cons, List.not_mem_nil, or_false] at hu
  rcases hu with rfl | rfl | rfl | rfl | rfl
  · exact h1.one
  · rfl
  · rfl
  · exact h2.one
  · exact h3.one
theorem one_sty : One styP := by
  rintro w G vs x ⟨pv, rfl, _, h1⟩ u hu
  simp only [List.mem_cons, List.not_mem_nil, or_false] at hu
  rcases hu with rfl | rfl | rfl | rfl | rfl | rfl
  · rfl
  · rfl
  · rfl
  · rfl
  · rfl
  · exact h1.one
theorem one_lst : One lstP := by
  rintro w G vs x ⟨pv, rfl, _, h1⟩ u hu
  simp only [List.mem_cons, List.not_mem_nil, or_false] at hu
  rcases hu with rfl | rfl
  · rfl
  · exact h1.one
section
variable {α : Type} {R : Rp α}
theorem one_ce : One (ceP R) := by
  rintro w G vs x ⟨h0, h1, h2, h3, h4, fv, rfl, _, k1, k2⟩ u hu
  rcases List.mem_cons.1 hu with rfl | hu
  · rfl
  · rcases List.mem_append.1 (show u ∈ [h0, h1, h2, h3, h4] ++ [fv] from hu) with hu | hu
    · exact one_hd _ _ _ _ k1 u hu
    · rw [List.mem_singleton.1 hu]; exact k2.one
theorem one_rw : One (rwP R) := by
  rintro w G vs x ⟨h0, h1, h2, h3, h4, fv, rfl, k1, k2⟩ u hu
  rcases List.mem_append.1 (show u ∈ [h0, h1, h2, h3, h4] ++ [fv] from hu) with hu | hu
  · exact one_hd _ _ _ _ k1 u hu
  · rw [List.mem_singleton.1 hu]; exact k2.one
theorem one_is : One (isP R) := by
  rintro w G vs x ⟨h0, h1, h2, h3, h4, fv, rv, rfl, _, k1, k2, k3⟩ u hu
  rcases List.mem_append.1 (show u ∈ [Value.int .i64 x.1, .int .i64 x.2.1, .int .i64 x.2.2.1, .string x.2.2.2.1] ++ ([h0, h1, h2, h3, h4] ++ [fv, rv]) from hu) with hu | hu
  · simp only [List.mem_cons, List.not_mem_nil, or_false] at hu
    rcases hu with rfl | rfl | rfl | rfl <;> rfl
  · rcases List.mem_append.1 hu with hu | hu
    · exact one_hd _ _ _ _ k1 u hu
    · simp only [List.mem_cons, List.not_mem_nil, or_false] at hu
      rcases hu with rfl | rfl
      · exact k2.one
      · exact k3.one
end
theorem one_it : ∀ n, One (itP n)
  | 0 => fun _ _ _ x => Empty.elim x
  | n + 1 => one_is
theorem modify_push {α : Type} (h : Array α) (a b : α) (f : α → α) (hf : f a = b) : (h.push a).modify h.size f = h.push b := by
  apply Array.ext
  · simp
  · intro i h1 h2
    rw [Array.getElem_modify, Array.getElem_push, Array.getElem_push]
    split
    · rename_i e
      subst e
      simp [hf]
    · rename_i e
      have : i < h.size := by
        have : i < h.size + 1 := by simpa using h2
        omega
      simp [this]
/-- A new block, stored whole. -/
theorem setRow_new (w : World) (old cells : Array Value) (t : TypeId) : (w.alloc (.cells old t)).setRow w.heap.size cells = w.alloc (.cells cells t) := by
  unfold World.setRow World.alloc
  exact congrArg (fun h => ({ w with heap := h } : World)) (modify_push w.heap (.cells old t) (.cells cells t) (fun | .cells _ elem frozen => .cells cells elem frozen | o => o) rfl)
/-- In a later world. -/
theorem Slv.below {α : Type} {R : Rp α} {sz : Nat} (hR : Stb R) {w w' : World} {G : Nat → Prop} {v : Value} {l : List α} {B : Nat} (h : Slv R sz w G v l) (hG : ∀ b, G b → b < B) (hb : Below B w w') : Slv R sz w' G v l :=
  h.stb hR (fun _ h => h) (fun b hg _ => hb.block b (hG b hg))
end Go.Proofs.YtmhhcfceikcfbaaGreat
