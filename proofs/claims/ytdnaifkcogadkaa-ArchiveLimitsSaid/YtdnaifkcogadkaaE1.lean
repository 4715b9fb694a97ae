/- Walks of the law's own functions: few, checked. -/
import Derived.Test.YtdnaifkcogadkaaD1
namespace Go.Proofs.Ytdnaifkcogadkaa
open Go.RowKit

section
variable {w : World} {ops : Array Oper} {rest : List Oper} {o : Oper} {a : Act} {K : Act → World → Prop} {Q : Exit → Act → World → Prop} {E : Prop} {base : Nat} {v : Value} {l : List Prt}
theorem encP_one (ys : List Prt) : ∀ u ∈ ys.flatMap encP, u.oneCell' = true := fun u hu => by
  obtain ⟨y, _, hy⟩ := List.mem_flatMap.1 hu
  simp only [encP, List.mem_cons, List.not_mem_nil, or_false] at hy
  rcases hy with rfl | rfl <;> rfl
/-- 'append(out, xs...)', xs parts, as a step of a region that draws. -/
theorem step_part (hgd : o.guard = none) (s x : Operand) (ho : o.op = .call { callee := .builtin .append, args := #[s, x], argTypes := #[22, 22] }) (hs : a.eval s = v) (hown : OwnP w base v l)
    (ad : Addr) (m c : Nat) (ys : List Prt) (hx : a.eval x = .slice (some ad) m c) (hm : m = ys.length) (hcell : ∀ j u, (ys.flatMap encP)[j]? = some u → w.cell? (ad.add j) = some u)
    (hlen : l.length + ys.length ≤ 1099511627776) (hbase : base ≤ w.heap.size)
    (h : ∀ v' w', OwnP w' base v' (l ++ ys) → w.grownBy w' v.ownBlock → K (a.put o.dst v') w') : if Region.wanted o (yielded ops a.tmps) = true then Oper.wp Try.prog o a w K Q else E := by
  have hw : Region.wanted o (yielded ops a.tmps) = true := by simp [Region.wanted, hgd]
  rw [if_pos hw]
  obtain ⟨i0, hi, hz0, hz1, hz2⟩ := info_parts info38
  subst hm
  refine wp_append_own w s x 22 ho base 38 i0 _ 2 32 Try.underlying22 hi hz0 hz1 hz2 rfl (by decide) v l.length (l.flatMap encP) hs hown ad ys.length c (ys.flatMap encP) hx (by rw [flatMap_length encP_length]) hcell (encP_one ys) (by simp only [maxLen]; omega) (by omega) hbase ?_
  · intro v' w' hown' hg _
    refine h v' w' ?_ hg
    unfold OwnP Own
    rw [List.length_append, List.flatMap_append]
    exact hown'
end
def cutS (n : Int) (s : ByteArray) : ByteArray := s.extract 0 (min (s.size : Int) n).toNat
def cutP (p : Prt) : Prt := (cutS 60 p.1, cutS 300 p.2)
def fewL (l : List Prt) : List Prt := (l.take 70).map cutP
theorem few_small (l : List Prt) : Small (fewL l) := by
  refine ⟨by simp [fewL]; omega, fun p hp => ?_⟩
  obtain ⟨q, _, rfl⟩ := List.mem_map.1 hp
  simp only [cutP, cutS, ByteArray.size_extract]
  omega
theorem OwnP.below {w w' : World} {base : Nat} {v : Value} {l : List Prt} (hown : OwnP w base v l) (hbase : base ≤ w.heap.size) (hg : w.grownBy w' v.ownBlock) : Below base w w' := by
  refine (Below.refl base w).grown hg hbase (fun k e => ?_)
  rcases hown.2 with ⟨rfl, _⟩ | ⟨g, cap, cur, rfl, hgb, _⟩
  · simp [Value.ownBlock] at e
  · simp only [Value.ownBlock, Option.some.injEq] at e
    omega
theorem BoxP.neP {w : World} {B base : Nat} {x0 x1 : ByteArray} {v : Value} {l : List Prt} (h : BoxP w B x0 x1) (hown : OwnP w base v l) (hB : B < base) : some B ≠ v.ownBlock := by
  rcases hown.2 with ⟨rfl, _⟩ | ⟨g, cap, cur, rfl, hgb, _⟩
  · simp [Value.ownBlock]
  · intro e
    simp only [Value.ownBlock, Option.some.injEq] at e
    omega
theorem OwnP.newNe {W : World} {base : Nat} {v : Value} {l : List Prt} (hown : OwnP W base v l) : some W.heap.size ≠ v.ownBlock := by
  rcases hown.2 with ⟨rfl, _⟩ | ⟨g, cap, cur, rfl, _, hgb, _⟩
  · simp [Value.ownBlock]
  · intro e
    have := lt_of_block hgb
    simp only [Value.ownBlock, Option.some.injEq] at e
    omega
theorem BoxP.three {w : World} {B : Nat} {x0 x1 : ByteArray} (h : BoxP w B x0 x1) : w.cell? ⟨B, 0, none⟩ = some (.string x0) ∧ w.cell? ⟨B, 1, none⟩ = some (.string x1) ∧ BoxP w B x0 x1 := ⟨h.c0, h.c1, h⟩
theorem cells_part (W : World) (n : Nat) (p : Prt) (h : n = W.heap.size) : ∀ (j : Nat) (u : Value), ([p].flatMap encP)[j]? = some u → (W.alloc (.cells #[.string p.1, .string p.2] 38)).drew.cell? ((⟨n, 0, none⟩ : Addr).add j) = some u := fun j u hj =>
  cells_at h [.string p.1, .string p.2] 38 j u hj

set_option maxRecDepth 100000 in
set_option maxHeartbeats 2000000 in
theorem few_any (v : Value) (l : List Prt) (w : World) (h : Parts w w.heap.size v l) :
    Calls Try.prog 13 #[v] w fun e w' => ∃ v', e = .returned v' ∧ OwnP w' w.heap.size v' (fewL l) ∧ Below w.heap.size w w' := by
  obtain ⟨A, c, rfl, hlc, hc, HP⟩ := h.part
  have HP := Lib.hid HP
  clear h
  go_enter Try.func13, Try.ntmps13
  go_wp2_with fail
  go_loopw [3, 4] (fun ov iv wr => ∃ k : Nat, k ≤ l.length ∧ k ≤ 70 ∧ iv = .int .i64 k ∧ OwnP wr w.heap.size ov ((l.take k).map cutP) ∧ Below w.heap.size w wr) (fun _ iv _ => 70 - (intOf iv).toNat)
  case atStart => exact ⟨0, Nat.zero_le _, Nat.zero_le _, rfl, Own.nil _ _, Below.refl _ _⟩
  case round =>
    obtain ⟨k, hk, hk7, rfl, hown, hb⟩ := hrel
    have hbz := hb.size
    by_cases hlt : k < l.length ∧ k < 70
    · obtain ⟨hlt1, hlt2⟩ := hlt
      obtain ⟨b, o, rfl, hbB, g1, g2⟩ := (HP.out.below hb) k hlt1
      have hT : (l.take (k + 1)).map cutP = (l.take k).map cutP ++ [cutP l[k]] := by rw [List.take_succ_eq_append_getElem hlt1, List.map_append]; rfl
      have HT := Lib.hid hT
      have hlen : ((l.take k).map cutP).length + 1 ≤ 1099511627776 := by simp; omega
      clear hT
      obtain ⟨x, hx⟩ : ∃ x, x = l[k] := ⟨_, rfl⟩
      rw [← hx] at g1 g2 HT
      clear hx
      obtain ⟨x0, x1⟩ := x
      simp only at g1 g2
      have bP : BoxP (wr.alloc (.cells #[.string x0, .string x1] 38)) wr.heap.size x0 x1 := heap_alloc_new _ _
      have c0 := bP.c0
      have c1 := bP.c1
      have hnn := OwnP.newNe hown
      have hown' := Own.alloc hown (.cells #[.string x0, .string x1] 38)
      have hb' := hb.alloc hbz (.cells #[.string x0, .string x1] 38)
      have hsb : w.heap.size ≤ ((wr.alloc (.cells #[.string x0, .string x1] 38)).alloc (.cells #[.string (cutS 60 x0), .string (cutS 300 x1)] 38)).heap.size := by simp; omega
      have k0 : cutS 60 x0 = x0.extract 0 (min (x0.size : Int) 60).toNat := rfl
      have k1 : cutS 300 x1 = x1.extract 0 (min (x1.size : Int) 300).toNat := rfl
      obtain ⟨y0, hy0⟩ : ∃ y0, y0 = cutS 60 x0 := ⟨_, rfl⟩
      obtain ⟨y1, hy1⟩ : ∃ y1, y1 = cutS 300 x1 := ⟨_, rfl⟩
      have hcut : cutP (x0, x1) = (y0, y1) := by rw [hy0, hy1]; rfl
      rw [← hy0] at k0 hsb
      rw [← hy1] at k1 hsb
      rw [hcut] at HT
      have m0 : (0 : Int) ≤ min (x0.size : Int) 60 := by omega
      have m1 : min (x0.size : Int) 60 ≤ (x0.size : Int) := by omega
      have m2 : (0 : Int) ≤ min (x1.size : Int) 300 := by omega
      have m3 : min (x1.size : Int) 300 ≤ (x1.size : Int) := by omega
      have k0' := k0.symm
      have k1' := k1.symm
      clear hown hb hy0 hy1 hcut k0 k1
      go_wp2_with fail
      go_region_held_law (fun w' => w'.cell? ⟨wr.heap.size, 0, none⟩ = some (.string x0) ∧ w'.cell? ⟨wr.heap.size, 1, none⟩ = some (.string x1) ∧ BoxP w' wr.heap.size x0 x1)
        (first
          | exact BoxP.three bP
          | (go_split_ands; exact BoxP.three (BoxP.alloc (by assumption) _))
          | (go_split_ands; exact BoxP.three (BoxP.besides (by assumption) hnn hg1).2))
        ((refine step_part (by rfl) _ _ (by rfl) (by rfl) (Own.alloc hown' _) _ 1 1 [(y0, y1)] (by rfl) (by rfl) (cells_part (wr.alloc (.cells #[.string x0, .string x1] 38)) _ (y0, y1) (by simp)) hlen hsb ?_; intro v1 w1 hown1 hg1))
      all_goals (
        have hOd : OwnP ((wr.alloc (.cells #[.string x0, .string x1] 38)).alloc (.cells #[.string y0, .string y1] 38)).drew w.heap.size _ ((l.take k).map cutP) := Own.alloc hown' (.cells #[.string y0, .string y1] 38)
        have hbE := (hb'.alloc hb'.size (.cells #[.string y0, .string y1] 38)).drew.trans (OwnP.below hOd hsb hg1)
        go_wp2_with fail
        rw [← HT.out] at hown1
        go_roundw
        · exact ⟨k + 1, by omega, by omega, by go_num, hown1, hbE⟩
        · simp [intOf]; omega)
    · have hT : fewL l = (l.take k).map cutP := by
        unfold fewL
        by_cases h1 : k < l.length
        · rw [show k = 70 by omega]
        · rw [List.take_of_length_le (i := k) (by omega), List.take_of_length_le (by omega)]
      rw [← hT] at hown
      obtain ⟨A2, c2, rfl, _, _⟩ := Own.shape hown
      clear hT
      by_cases h1 : k < l.length
      · have h2 : ¬ k < 70 := fun h2 => hlt ⟨h1, h2⟩
        go_wp2_with fail
        go_ret
        exact ⟨_, rfl, hown, hb⟩
      · go_wp2_with fail
        go_ret
        exact ⟨_, rfl, hown, hb⟩
end Go.Proofs.Ytdnaifkcogadkaa
