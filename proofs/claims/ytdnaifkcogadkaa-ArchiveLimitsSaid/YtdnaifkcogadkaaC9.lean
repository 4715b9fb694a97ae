/- Walk: Encode, where all parts are right. -/
import Derived.Deep.RegionHeldLaw
import Derived.Laws.AppendOwnNone
import Derived.Test.YtdnaifkcogadkaaC8
namespace Go.Proofs.Ytdnaifkcogadkaa
open Go.RowKit

section
variable {w : World} {ops : Array Oper} {rest : List Oper} {o : Oper} {a : Act} {K : Act → World → Prop} {Q : Exit → Act → World → Prop} {E : Prop} {base : Nat} {v : Value} {l : List Nat}
/-- 'append(out, xs...)' as a step of a region that draws. -/
theorem step_bytes (hgd : o.guard = none) (s x : Operand) (ho : o.op = .call { callee := .builtin .append, args := #[s, x], argTypes := #[35, 35] }) (hs : a.eval s = v) (hown : OwnB w base v l)
    (ad : Addr) (m c : Nat) (ys : List Nat) (hx : a.eval x = .slice (some ad) m c) (hm : m = ys.length) (hcell : ∀ j u, (ys.flatMap encB)[j]? = some u → w.cell? (ad.add j) = some u)
    (hlen : l.length + ys.length ≤ 140737488355328) (hbase : base ≤ w.heap.size)
    (h : ∀ v' w', OwnB w' base v' (l ++ ys) → w.grownBy w' v.ownBlock → K (a.put o.dst v') w') : if Region.wanted o (yielded ops a.tmps) = true then Oper.wp Try.prog o a w K Q else E := by
  have hw : Region.wanted o (yielded ops a.tmps) = true := by simp [Region.wanted, hgd]
  rw [if_pos hw]
  obtain ⟨i0, hi, hz0, hz1, hz2⟩ := info_parts info5
  subst hm
  refine wp_append_own w s x 35 ho base 5 i0 _ 1 1 Try.underlying35 hi hz0 hz1 hz2 rfl (by decide) v l.length (l.flatMap encB) hs hown ad ys.length c (ys.flatMap encB) hx (by rw [flatMap_length encB_length]) hcell ?_ (by simp only [maxLen]; omega) (by omega) hbase ?_
  · intro u hu
    obtain ⟨y, _, hy⟩ := List.mem_flatMap.1 hu
    simp only [encB, List.mem_singleton] at hy
    subst hy; rfl
  · intro v' w' hown' hg _
    refine h v' w' ?_ hg
    unfold OwnB Own
    rw [List.length_append, List.flatMap_append]
    exact hown'
theorem step_text (hgd : o.guard = none) (sl x : Operand) (ho : o.op = .call { callee := .builtin .append, args := #[sl, x], argTypes := #[35, 9] }) (hs : a.eval sl = v) (hown : OwnB w base v l) (s : ByteArray) (hx : a.eval x = .string s)
    (hlen : l.length + s.size ≤ 140737488355328) (hbase : base ≤ w.heap.size)
    (h : ∀ v' w', OwnB w' base v' (l ++ bytesN s) → w.grownBy w' v.ownBlock → K (a.put o.dst v') w') : if Region.wanted o (yielded ops a.tmps) = true then Oper.wp Try.prog o a w K Q else E := by
  have hw : Region.wanted o (yielded ops a.tmps) = true := by simp [Region.wanted, hgd]
  rw [if_pos hw]
  obtain ⟨i0, hi, hz0, hz1, hz2⟩ := info_parts info5
  obtain ⟨v', w', hr, h2, h3, h4⟩ := Lib.run_append_own_string (P := Try.prog) w base 35 9 o.type 5 i0 Try.underlying35 Try.underlying9 hi hz0 hz1 hz2 v l.length (l.flatMap encB) hown s (by simp only [maxLen]; omega) hlen hbase
  unfold Oper.wp execOp
  simp only [ho, resolve, invoke, builtin, Sem.run_bind, Sem.run_pure, Result.andThen_ok, List.map_toArray, List.map_cons, List.map_nil, hs, hx, hr]
  refine h v' w' ?_ h3
  unfold OwnB Own
  rw [List.length_append, List.flatMap_append, bytesN_length, ← strCells_eq]
  exact h2
theorem OwnB.pos (hown : OwnB w base v l) (hne : l ≠ []) : ∃ g cap, v = .slice (some ⟨g, 0, none⟩) l.length cap ∧ ∀ j u, (l.flatMap encB)[j]? = some u → w.cell? ((⟨g, 0, none⟩ : Addr).add j) = some u := by
  have h : w.ownsRow base 5 1 v l.length (l.flatMap encB) := hown
  rcases h.2 with ⟨_, hn⟩ | ⟨g, cap, cur, rfl, _⟩
  · exact absurd (List.eq_nil_of_length_eq_zero hn) hne
  · exact ⟨g, cap, rfl, h.cells (g := g) rfl⟩
/-- 'append(out, xs...)', xs a slice of bytes of the call's own, nil or not. -/
theorem wpList_own {base2 : Nat} {u : Value} {ys : List Nat} (hgd : o.guard = none) (s x : Operand) (ho : o.op = .call { callee := .builtin .append, args := #[s, x], argTypes := #[35, 35] })
    (hs : a.eval s = v) (hown : OwnB w base v l) (hx : a.eval x = u) (hsrc : OwnB w base2 u ys) (hlen : l.length + ys.length ≤ 140737488355328) (hbase : base ≤ w.heap.size)
    (h : ∀ v' w', OwnB w' base v' (l ++ ys) → w.grownBy w' v.ownBlock → wpList Try.prog ops Q rest (a.put o.dst v') w') : wpList Try.prog ops Q (o :: rest) a w := by
  have h' : w.ownsRow base2 5 1 u ys.length (ys.flatMap encB) := hsrc
  rcases h'.2 with ⟨rfl, hn⟩ | ⟨g, cap, cur, rfl, _⟩
  · obtain rfl : ys = [] := List.eq_nil_of_length_eq_zero hn
    obtain ⟨i0, hi, hz0, hz1, hz2⟩ := info_parts info5
    refine wpList_append_own_none hgd s x 35 ho base 5 i0 1 Try.underlying35 hi v l.length (l.flatMap encB) hs hown hx ?_
    exact h v w (by rw [List.append_nil]; exact hown) ⟨rfl, rfl, rfl, Nat.le_refl _, fun _ _ _ => rfl⟩
  · exact wpList_bytes hgd s x ho base v l hs hown ⟨g, 0, none⟩ ys.length cap ys hx rfl (h'.cells (g := g) rfl) hlen hbase h
end
theorem cells_at {W : World} {n : Nat} (h : n = W.heap.size) (cs : List Value) (E : TypeId) : ∀ (j : Nat) (u : Value), cs[j]? = some u → (W.alloc (.cells cs.toArray E)).cell? ((⟨n, 0, none⟩ : Addr).add j) = some u := fun j u hj => by
  subst h
  rw [addr_add, Nat.zero_add]
  exact cells_new W cs E j u hj
theorem own_magic (w : World) : OwnB (w.alloc (.cells #[.int .u8 79, .int .u8 66, .int .u8 80, .int .u8 49] 5)) w.heap.size (.slice (some ⟨w.heap.size, 0, none⟩) 4 4) [79, 66, 80, 49] :=
  ⟨rfl, .inr ⟨w.heap.size, 4, _, rfl, Nat.le_refl _, heap_alloc_new _ _, Nat.le_refl _, by simp [maxLen], rfl, rfl⟩⟩
theorem dirOf_length (p : Prt) : (dirOf p).length = p.1.size + 9 := by simp [dirOf, put32, bytesN_length]
theorem dirOf_lt (p : Prt) : ∀ b ∈ dirOf p, b < 256 := fun b hb => by
  unfold dirOf at hb
  rcases List.mem_append.1 hb with hb | hb
  · rcases List.mem_append.1 hb with hb | hb
    · rcases List.mem_cons.1 hb with rfl | hb
      · omega
      · exact bytesN_lt _ _ hb
    · exact put32_lt _ _ hb
  · exact put32_lt _ _ hb
theorem chkAll_zero : ∀ (l : List Prt) (S : List ByteArray) (k : Nat) (hk : k < l.length) (T : List ByteArray), chkAll l S = 0 → chkAll (l.drop k) T = 0 → chkP l[k] = 0 ∧ l[k].1 ∉ T ∧ chkAll (l.drop (k + 1)) (l[k].1 :: T) = 0 := fun l S k hk T _ h => by
  rw [List.drop_eq_getElem_cons hk, chkAll_cons] at h
  by_cases h1 : chkP l[k] ≠ 0
  · rw [if_pos h1] at h; exact absurd h h1
  · rw [if_neg h1] at h
    by_cases h2 : seenB T l[k].1 = true
    · rw [if_pos h2] at h; exact absurd h (by decide)
    · rw [if_neg h2] at h
      exact ⟨by simpa using h1, fun hm => h2 ((seenB_iff _ _).2 hm), h⟩
end Go.Proofs.Ytdnaifkcogadkaa
