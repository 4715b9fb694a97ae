/- Plain laws: readings one behind the other; a reader among new blocks. -/
import Derived.Test.YtmhhcfceikcfbaaGreatR2
import Derived.Test.YtmhhcfceikcfbaaGreatRep
import Derived.Deep.RegionHeld3
import Derived.Deep.Cut
import Derived.Test.YtmhhcfceikcfbaaGreatW1
import Derived.Maps.AppendAt
namespace Go.Proofs.YtmhhcfceikcfbaaGreat
open Go.RowKit

theorem Res.seq {α β : Type} {p : Rd α} {q : Rd β} {s : ByteArray} {k k1 k2 : Nat} {e e1 e2 : Int} {x : α} {y : β} (h : Res p s k e x k1 e1) (g : Res q s k1 e1 y k2 e2) : Res (seqR p q) s k e (x, y) k2 e2 := by
  refine ⟨g.1, fun he => ?_, fun he => ?_⟩
  · have h1 := h.2.1 he
    rw [← h1] at he ⊢
    exact g.2.1 he
  · have h1 := h.2.2 he
    unfold seqR bnd
    cases hp : p ((bytesN s).drop k) with
    | err E =>
      rw [hp] at h1
      obtain ⟨h2, h3⟩ := h1
      rw [← h2] at h3
      have h4 := g.2.1 h3
      exact ⟨by rw [h4, h2], by rw [← h2]; exact h3⟩
    | ok z n =>
      rw [hp] at h1
      obtain ⟨rfl, h2, h3⟩ := h1
      have g1 := g.2.2 h3
      simp only [List.drop_drop, ← h2]
      cases hq : q ((bytesN s).drop k1) with
      | err E => rw [hq] at g1; exact g1
      | ok y2 m =>
        rw [hq] at g1
        obtain ⟨rfl, g2, g3⟩ := g1
        exact ⟨rfl, by rw [g2, h2]; simp; omega, g3⟩
theorem Rdr.alloc {ty : TypeId} {r k : Nat} {s : ByteArray} {e : Int} {w : World} (h : Rdr ty r s k e w) (o : Obj) : Rdr ty r s k e (w.alloc o) := by
  unfold Rdr at h ⊢
  have hl : r < w.heap.size := by
    rcases Nat.lt_or_ge r w.heap.size with q | q
    · exact q
    · rw [Array.getElem?_eq_none q] at h; exact absurd h (by simp)
  rw [← h]
  exact Array.getElem?_push_lt hl ▸ (Array.getElem?_eq_getElem hl).symm ▸ rfl
theorem grown_cell {a b : World} {r : Nat} (h : a.grownBy b (some r)) {x : Addr} {v : Value} (hx : a.cell? x = some v) (hn : x.block ≠ r) : b.cell? x = some v := by
  have hl := World.block_lt_of_cell? _ _ hx
  exact (World.cell?_of_block (h.block x.block hl (fun e => hn (by injection e)))).trans hx
theorem lt_of_blk {a : World} {g : Nat} {o : Obj} (hx : a.heap[g]? = some o) : g < a.heap.size := by
  rcases Nat.lt_or_ge g a.heap.size with q | q
  · exact q
  · rw [Array.getElem?_eq_none q] at hx; exact absurd hx (by simp)
theorem blk_over {a b : World} {r g : Nat} {o : Obj} (h : a.grownBy b (some r)) (hx : a.heap[g]? = some o) (hn : g ≠ r) : b.heap[g]? = some o :=
  (h.block g (lt_of_blk hx) (fun e => hn (by injection e))).trans hx
theorem grown_new {a b : World} {r g : Nat} (h : a.grownBy b (some r)) (hg : a.heap.size ≤ g) (j : Nat) (u : Value) : a.grownBy (b.setCell ⟨g, j, none⟩ u) (some r) :=
  ⟨h.os, h.tape, h.output, by simpa using h.size, fun k hk hr => (heap_setCell_other b ⟨g, j, none⟩ k u (Nat.ne_of_lt (Nat.lt_of_lt_of_le hk hg))).trans (h.block k hk hr)⟩
theorem grown_alloc {a b : World} {r : Nat} (h : a.grownBy b (some r)) (o : Obj) : a.grownBy (b.alloc o) (some r) :=
  ⟨h.os, h.tape, h.output, by have := h.size; simp; omega, fun k hk hr => (Below.heap_alloc b o k (Nat.lt_of_lt_of_le hk h.size)).trans (h.block k hk hr)⟩
theorem Rdr.other {ty : TypeId} {r k g : Nat} {s : ByteArray} {e : Int} {w : World} (h : Rdr ty r s k e w) (hg : g ≠ r) (j : Nat) (u : Value) : Rdr ty r s k e (w.setCell ⟨g, j, none⟩ u) :=
  (heap_setCell_other w ⟨g, j, none⟩ r u (fun e => hg e.symm)).trans h
/-- A list read on by one element. -/
theorem many_snoc {α : Type} (p : Rd α) (n : Nat) (l : List Nat) : manyR p (n + 1) l = match manyR p n l with
    | .ok r k => (match p (l.drop k) with | .ok x m => .ok (r ++ [x]) (k + m) | .err e => .err e)
    | .err e => .err e := by
  induction n generalizing l with
  | zero =>
    rw [many_cons]
    show _ = (match p (l.drop 0) with | Rs.ok x m => Rs.ok ([] ++ [x]) (0 + m) | Rs.err e => Rs.err e)
    rw [List.drop_zero]
    cases p l with
    | ok x m => show Rs.ok [x] (m + 0) = Rs.ok [x] (0 + m); rw [Nat.add_comm]
    | err e => rfl
  | succ n ih =>
    rw [many_cons, many_cons]
    cases hp : p l with
    | err e => rfl
    | ok x k =>
      simp only
      rw [ih]
      cases hm : manyR p n (l.drop k) with
      | err e => rfl
      | ok r k2 =>
        simp only
        rw [List.drop_drop]
        cases p (l.drop (k + k2)) with
        | err e => rfl
        | ok y k3 => simp [Nat.add_assoc]
theorem many_err {α : Type} {p : Rd α} {i n : Nat} {l : List Nat} {E : Int} (h : manyR p i l = .err E) (hn : i ≤ n) : manyR p n l = .err E := by
  induction n with
  | zero => rw [show i = 0 by omega] at h; exact h
  | succ n ih =>
    rcases Nat.lt_or_ge n i with q | q
    · rw [show i = n + 1 by omega] at h; exact h
    · rw [many_snoc, ih q]
theorem Res.snoc {α : Type} {p : Rd α} {s : ByteArray} {k k1 k2 i : Nat} {e e2 : Int} {l : List α} {x : α} (h : Res (manyR p i) s k e l k1 0) (g : Res p s k1 0 x k2 e2) : Res (manyR p (i + 1)) s k e (l ++ [x]) k2 e2 := by
  obtain ⟨rfl, n, hp, hn⟩ := h.ok0
  refine ⟨g.1, fun q => absurd rfl q, fun _ => ?_⟩
  have g2 := g.2.2 rfl
  rw [many_snoc, hp]
  simp only
  rw [List.drop_drop, ← hn]
  cases hq : p ((bytesN s).drop k1) with
  | err E => rw [hq] at g2; exact g2
  | ok y m =>
    rw [hq] at g2
    obtain ⟨rfl, g3, g4⟩ := g2
    exact ⟨rfl, by omega, g4⟩
theorem Res.manyErr {α : Type} {p : Rd α} {s : ByteArray} {k k1 i n : Nat} {e e2 : Int} {l l' : List α} (h : Res (manyR p i) s k e l k1 e2) (he : e2 ≠ 0) (hn : i ≤ n) : Res (manyR p n) s k e l' k1 e2 := by
  refine ⟨h.1, h.2.1, fun h0 => ?_⟩
  have h2 := h.2.2 h0
  cases hq : manyR p i ((bytesN s).drop k) with
  | ok y m => rw [hq] at h2; exact absurd h2.2.2 he
  | err E => rw [hq] at h2; rw [many_err hq hn]; exact h2
theorem Res.many0 {α : Type} (p : Rd α) (s : ByteArray) (k : Nat) (e : Int) (hk : k ≤ s.size) : Res (manyR p 0) s k e [] k e :=
  ⟨hk, fun _ => rfl, fun h => ⟨rfl, rfl, h⟩⟩
/-- A size and its elements are a list. -/
theorem Res.list {α : Type} {p : Rd α} {s : ByteArray} {k k1 k2 n : Nat} {e e1 e2 : Int} {l : List α} (h : Res rdS s k e n k1 e1) (g : Res (manyR p n) s k1 e1 l k2 e2) : Res (listR p) s k e l k2 e2 := by
  refine ⟨g.1, fun he => ?_, fun he => ?_⟩
  · have h1 := h.2.1 he
    rw [← h1] at he ⊢
    exact g.2.1 he
  · have h1 := h.2.2 he
    unfold listR bnd
    cases hp : rdS ((bytesN s).drop k) with
    | err E =>
      rw [hp] at h1
      obtain ⟨h2, h3⟩ := h1
      rw [← h2] at h3
      have h4 := g.2.1 h3
      exact ⟨by rw [h4, h2], by rw [← h2]; exact h3⟩
    | ok z m =>
      rw [hp] at h1
      obtain ⟨rfl, h2, h3⟩ := h1
      have g1 := g.2.2 h3
      simp only [List.drop_drop, ← h2]
      cases hq : manyR p n ((bytesN s).drop k1) with
      | err E => rw [hq] at g1; exact g1
      | ok y2 j =>
        rw [hq] at g1
        obtain ⟨rfl, g2, g3⟩ := g1
        exact ⟨rfl, by omega, g3⟩
end Go.Proofs.YtmhhcfceikcfbaaGreat
namespace Go.Proofs.YtmhhcfceikcfbaaGreat
open Go.RowKit

theorem info187 : (Tryz.prog.info? 187).map (·.size) = some 2 := by kernel_rfl
set_option maxRecDepth 100000 in
set_option maxHeartbeats 1000000 in
theorem clos199 (r c k0 : Nat) (s : ByteArray) (e0 : Int) (w : World) (h : Rdr 99 r s k0 e0 w) (hk0 : k0 ≤ s.size) (hs : s.size ≤ 1099511627776) (hc : w.cell? ⟨c, 0, none⟩ = some (.pointer (some ⟨r, 0, none⟩))) (hcr : c ≠ r) :
    Calls Tryz.prog 199 #[.pointer (some ⟨c, 0, none⟩)] w fun e w' => ∃ (x : Two) (k' : Nat) (e' : Int), e = .returned (.agg #[.int .i64 x.1, .int .i64 x.2]) ∧ twoD x ∧ Rdr 99 r s k' e' w' ∧ w.grownBy w' (some r) ∧ Res twoR s k0 e0 x k' e' := by
  have hcl := World.block_lt_of_cell? _ _ hc
  have hcg : c ≠ w.heap.size := Nat.ne_of_lt hcl
  have hgr : w.heap.size ≠ r := fun e => by
    have := lt_of_blk h
    omega
  have h0 := h.alloc (.cells #[.int .i64 0, .int .i64 0] 187)
  have hc1 : (w.alloc (.cells #[.int .i64 0, .int .i64 0] 187)).cell? ⟨c, 0, none⟩ = some (.pointer (some ⟨r, 0, none⟩)) := (World.cell?_of_block (Below.heap_alloc _ _ _ hcl)).trans hc
  have hgb : (w.alloc (.cells #[.int .i64 0, .int .i64 0] 187)).heap[w.heap.size]? = some (.cells #[.int .i64 0, .int .i64 0] 187 (0, 0)) := heap_alloc_new w _
  have HG : Hid (w.grownBy (w.alloc (.cells #[.int .i64 0, .int .i64 0] 187)).drew (some r)) := Lib.hid (grown_drewN (grown_alloc (grown_refl w (some r)) _) 1)
  clear h hc
  go_enter Tryz.func199, Tryz.ntmps199
  go_upto_region 1 with fail
  go_region_held3 (fun w' => w'.cell? ⟨c, 0, none⟩ = some (.pointer (some ⟨r, 0, none⟩)))
    (first
      | exact hc1
      | (repeat refine (World.cell?_of_block (heap_setCell_other _ _ c _ hcg)).trans ?_
         exact hc1))
    (first
      | (go_at_call 43
         refine Calls.mono (number43_any r k1 s e1 _ ?_ hk1 hs) ?_
         exact h1
         rintro e w2 ⟨x2, k2, e2, rfl, hx2, h2, hg, hs2⟩
         have hgb := blk_over hg hgb hgr
         have hc1 := grown_cell hg hc1 hcr
         have HG := Lib.hid (grown_trans HG.out hg)
         have f0 := blk_free hgb 0
         have f1 := blk_free hgb 1
         have b0 : w2.cell? ⟨w.heap.size, 0, none⟩ = some (.int .i64 0) := blk_cell hgb 0
         have b1 : w2.cell? ⟨w.heap.size, 1, none⟩ = some (.int .i64 0) := blk_cell hgb 1
         have hk2 := hs2.1)
      | (go_at_call 43
         refine Calls.mono (number43_any r k0 s e0 _ ?_ hk0 hs) ?_
         exact h0
         rintro e w1 ⟨x1, k1, e1, rfl, hx1, h1, hg, hs1⟩
         have hgb := blk_over hg hgb hgr
         have hc1 := grown_cell hg hc1 hcr
         have HG := Lib.hid (grown_trans HG.out hg)
         have f0 := blk_free hgb 0
         have f1 := blk_free hgb 1
         have b0 : w1.cell? ⟨w.heap.size, 0, none⟩ = some (.int .i64 0) := blk_cell hgb 0
         have b1 : w1.cell? ⟨w.heap.size, 1, none⟩ = some (.int .i64 0) := blk_cell hgb 1
         have hk1 := hs1.1))
  have HR := Lib.hid ((h2.other hgr 0 (.int .i64 x1)).other hgr 1 (.int .i64 x2))
  have HGZ := Lib.hid (grown_new (grown_new HG.out (Nat.le_refl _) 0 (.int .i64 x1)) (Nat.le_refl _) 1 (.int .i64 x2))
  have hz := heap_setCell_same _ _ 1 _ _ (.int .i64 x2) (heap_setCell_same _ _ 0 _ _ (.int .i64 x1) hgb)
  have HS := Lib.hid (hs1.seq hs2)
  have HX := Lib.hid (And.intro hx1 hx2)
  obtain ⟨wz, hwz⟩ : ∃ wz, wz = (w2.setCell ⟨w.heap.size, 0, none⟩ (.int .i64 x1)).setCell ⟨w.heap.size, 1, none⟩ (.int .i64 x2) := ⟨_, rfl⟩
  rw [← hwz] at HR HGZ hz ⊢
  have z0 : wz.cell? ⟨w.heap.size, 0, none⟩ = some (.int .i64 x1) := blk_cell hz 0
  have z1 : wz.cell? ⟨w.heap.size, 1, none⟩ = some (.int .i64 x2) := blk_cell hz 1
  have y0 := blk_free hz 0
  have y1 := blk_free hz 1
  have HB := Lib.hid (heap_setCell_same _ _ 1 _ _ (.int .i64 x2) (heap_setCell_same _ _ 0 _ _ (.int .i64 x1) hz))
  clear hwz hz
  have HZ := Lib.hid (And.intro ((HR.out.other hgr 0 (.int .i64 x1)).other hgr 1 (.int .i64 x2)) (grown_new (grown_new HGZ.out (Nat.le_refl _) 0 (.int .i64 x1)) (Nat.le_refl _) 1 (.int .i64 x2)))
  clear HR HGZ
  go_wp2_with fail
  refine bodyPost_ret (v := .agg #[.int .i64 x1, .int .i64 x2]) (results_cell_row rfl _ _ w.heap.size 187 #[.int .i64 x1, .int .i64 x2] (0, 0) _ rfl HB.out Tryz.underlying187 rfl info187) rfl ?_
  exact ⟨(x1, x2), k2, e2, rfl, HX.out, HZ.out.1, HZ.out.2, HS.out⟩
end Go.Proofs.YtmhhcfceikcfbaaGreat
namespace Go.Proofs.YtmhhcfceikcfbaaGreat
open Go.RowKit

theorem wpList_push_at {α : Type} {enc : α → List Value} {P : Program} (w : World) {ops : Array Oper} {rest : List Oper} {o : Oper} {a : Act} {Q : Exit → Act → World → Prop}
    (hgd : o.guard = none) (s x : Operand) (t : TypeId)
    (ho : o.op = .call { callee := .builtin .append, args := #[s, x], argTypes := #[t, t] })
    (base : Nat) (E : TypeId) (i : TypeInfo) (z : Value) (sz bytes : Nat) (ht : P.underlying t = some (.slice E)) (hi : P.info? E = some i) (hz : i.zero = some z)
    (hsize : i.size = sz) (hby : i.bytes = bytes) (hzs : z.cells.size = sz) (hsz : 0 < sz) (he : ∀ x, (enc x).length = sz) (h1 : ∀ x, ∀ u ∈ enc x, u.oneCell' = true)
    (v : Value) (l : List α) (hs : a.eval s = v) (hown : Own enc sz E w base v l)
    (g c : Nat) (y : α) (hx : a.eval x = .slice (some ⟨g, 0, none⟩) 1 c) (hcell : ∀ j u, (enc y)[j]? = some u → w.cell? ⟨g, j, none⟩ = some u)
    (hbytes : (l.length + 1) * bytes ≤ 140737488355328) (hlen : l.length < 140737488355328) (hbase : base ≤ w.heap.size)
    (h : ∀ v' w', Own enc sz E w' base v' (l ++ [y]) → w.grownBy w' v.ownBlock → (v'.ownBlock = v.ownBlock ∨ v'.ownBlock = some w.heap.size) → wpList P ops Q rest (a.put o.dst v') w') : wpList P ops Q (o :: rest) a w := by
  refine wpList_append_own_at _ hgd s x t ho base E i z sz bytes ht hi hz hsize hby hzs hsz v l.length (l.flatMap enc) hs hown ⟨g, 0, none⟩ 1 c (enc y) hx (by rw [he, Nat.one_mul]) ?_ (h1 y) ?_ hbytes hbase ?_
  · intro j u hu
    rw [addr_add, Nat.zero_add]
    exact hcell j u hu
  · simp only [maxLen]; omega
  · intro v' w' hown' hg _ hat
    refine h v' w' ?_ hg hat
    unfold Own
    rw [List.length_append, List.flatMap_append]
    simpa using hown'
theorem Own.base_le {α : Type} {enc : α → List Value} {sz : Nat} {E : TypeId} {w : World} {base g : Nat} {v : Value} {l : List α} (h : Own enc sz E w base v l) (hg : v.ownBlock = some g) : base ≤ g ∧ g < w.heap.size := by
  rcases h.2 with ⟨rfl, _⟩ | ⟨g', cap, cur, rfl, hb, hh, _⟩
  · simp [Value.ownBlock] at hg
  · have : g' = g := by simpa [Value.ownBlock] using hg
    subst this
    exact ⟨hb, lt_of_blk hh⟩

/-- An element's cells, whatever they hold. -/
def Cel (sz : Nat) := { vs : List Value // vs.length = sz ∧ ∀ u ∈ vs, u.oneCell' = true }
def Cel.val {sz : Nat} (x : Cel sz) : List Value := x.1
/-- What is read so far. -/
def GetI {α : Type} (R : Rp α) (p : Rd α) (sz : Nat) (E ty : TypeId) (r c : Nat) (s : ByteArray) (w : World) (k1 : Nat) (e1 : Int) (i k : Nat) (v : Value) (wr : World) : Prop :=
  ∃ (L : List (Cel sz)) (l : List α), Own Cel.val sz E wr w.heap.size v L ∧ L.length = i ∧ l.length = i ∧ Rdr ty r s k e1 wr ∧ w.grownBy wr (some r) ∧ Res (manyR p i) s k1 e1 l k e1 ∧ wr.cell? ⟨c, 0, none⟩ = some (.pointer (some ⟨r, 0, none⟩)) ∧
    ∀ (j : Nat) (x : α), l[j]? = some x → ∃ vs : Cel sz, L[j]? = some vs ∧ ∃ G : Nat → Prop, (∀ b, G b → w.heap.size ≤ b ∧ b < wr.heap.size ∧ v.ownBlock ≠ some b) ∧ R wr G vs.val x
theorem GetI.start {α : Type} (R : Rp α) (p : Rd α) (sz : Nat) (E ty : TypeId) {r c k : Nat} {s : ByteArray} {w w1 : World} {e1 : Int} (hk : k ≤ s.size) (hr : Rdr ty r s k e1 w1) (hg : w.grownBy w1 (some r)) (hc : w1.cell? ⟨c, 0, none⟩ = some (.pointer (some ⟨r, 0, none⟩))) :
    GetI R p sz E ty r c s w k e1 0 k (.slice none 0 0) w1 :=
  ⟨[], [], Own.nil _ _, rfl, rfl, hr, hg, Res.many0 p s k e1 hk, hc, fun j x h => by simp at h⟩
theorem GetI.slv {α : Type} {R : Rp α} {p : Rd α} {sz : Nat} {E ty : TypeId} {r c : Nat} {s : ByteArray} {w : World} {k1 : Nat} {e1 : Int} {i k : Nat} {v : Value} {wr : World} (hR : Stb R) (h : GetI R p sz E ty r c s w k1 e1 i k v wr) :
    ∃ l, Slv R sz wr (fun b => w.heap.size ≤ b ∧ b < wr.heap.size) v l ∧ Rdr ty r s k e1 wr ∧ w.grownBy wr (some r) ∧ Res (manyR p i) s k1 e1 l k e1 := by
  obtain ⟨L, l, hown, hL, hl, hr, hg, hres, hcc, hel⟩ := h
  refine ⟨l, ?_, hr, hg, hres⟩
  have hle : L.length = l.length := by omega
  have hsl := hown.sl (fun x => x.2.1)
  unfold Own at hown
  rcases hown.2 with ⟨rfl, hn⟩ | ⟨g, cap, cur, rfl, hb, hh, hc1, hc2, hc3, hc4⟩
  · have : l = [] := List.eq_nil_of_length_eq_zero (by omega)
    subst this
    exact Slv.nil _ _
  · refine ⟨_, _, by rw [hle], by omega, hc2, fun hn => ⟨g, 0, rfl, ⟨hb, lt_of_blk hh⟩, lt_of_blk hh, fun j x hx => ?_⟩⟩
    obtain ⟨vs, hvs, G, hG, hRx⟩ := hel j x hx
    refine ⟨vs.val, vs.2.1, hR _ _ _ _ _ _ (fun b hb => ⟨(hG b hb).1, (hG b hb).2.1⟩) (fun b _ _ => rfl) hRx, fun q u hu => ?_⟩
    have := World.ownsRow.cells hown (g := g) rfl (j * sz + q) u (flatMap_get (fun x => x.2.1) L j vs hvs q u hu)
    rw [addr_add] at this
    rw [← this]
    congr 2
    omega
theorem GetI.push {α : Type} {R : Rp α} {p : Rd α} {sz : Nat} {E ty : TypeId} {r c : Nat} {s : ByteArray} {w : World} {k1 i k k2 : Nat} {v v' : Value} {wr w2 wa w' : World} {L : List (Cel sz)} {l : List α} {y : Cel sz} {x : α} (hR : Stb R) (hrw : r < w.heap.size) (hcw : c < w.heap.size)
    (hown : Own Cel.val sz E wr w.heap.size v L) (hL : L.length = i) (hl : l.length = i) (hg : w.grownBy wr (some r)) (hres : Res (manyR p i) s k1 0 l k 0)
    (hel : ∀ (j : Nat) (x : α), l[j]? = some x → ∃ vs : Cel sz, L[j]? = some vs ∧ ∃ G : Nat → Prop, (∀ b, G b → w.heap.size ≤ b ∧ b < wr.heap.size ∧ v.ownBlock ≠ some b) ∧ R wr G vs.val x)
    (hg2 : wr.grownBy w2 (some r)) (hr2 : Rdr ty r s k2 0 w2) (hc2 : w2.cell? ⟨c, 0, none⟩ = some (.pointer (some ⟨r, 0, none⟩))) (hres2 : Res p s k 0 x k2 0) (hRx : R w2 (fun b => wr.heap.size ≤ b ∧ b < w2.heap.size) y.val x)
    (hba : Below w2.heap.size w2 wa) (hown' : Own Cel.val sz E w' w.heap.size v' (L ++ [y])) (hgo : wa.grownBy w' v.ownBlock) (hat : v'.ownBlock = v.ownBlock ∨ v'.ownBlock = some wa.heap.size) :
    GetI R p sz E ty r c s w k1 0 (i + 1) k2 v' w' := by
  have z1 := hg.size
  have z2 := hg2.size
  have z3 := hba.size
  have z4 := hgo.size
  have hob : ∀ g, v.ownBlock = some g → w.heap.size ≤ g ∧ g < wr.heap.size := fun g h => hown.base_le h
  have key : ∀ b, b < w2.heap.size → v.ownBlock ≠ some b → w'.heap[b]? = w2.heap[b]? := fun b h1 h2 =>
    (hgo.block b (by omega) (fun e => h2 e.symm)).trans (hba.block b h1)
  have keyr : ∀ b, b < wr.heap.size → b ≠ r → v.ownBlock ≠ some b → w'.heap[b]? = wr.heap[b]? := fun b h1 h2 h3 =>
    (key b (by omega) h3).trans (hg2.block b h1 (fun e => h2 (by injection e)))
  have no : ∀ b, b < w.heap.size → v.ownBlock ≠ some b := fun b h e => by have := hob b e; omega
  refine ⟨L ++ [y], l ++ [x], hown', by simp [hL], by simp [hl], (key r (by omega) (no r hrw)).trans hr2, ?_, Res.snoc hres hres2, (World.cell?_of_block (a := ⟨c, 0, none⟩) (key c (by omega) (no c hcw))).trans hc2, ?_⟩
  · refine ⟨(hgo.os.trans hba.os).trans (hg2.os.trans hg.os), (hgo.tape.trans hba.tape).trans (hg2.tape.trans hg.tape), (hgo.output.trans hba.output).trans (hg2.output.trans hg.output), by omega, fun b hb hbr => ?_⟩
    exact (keyr b (by omega) (fun e => hbr (by rw [e])) (no b hb)).trans (hg.block b hb hbr)
  · intro j x' hx'
    rcases Nat.lt_or_ge j l.length with q | q
    · rw [List.getElem?_append_left q] at hx'
      obtain ⟨vs, hvs, G, hG, hRj⟩ := hel j x' hx'
      refine ⟨vs, by rw [List.getElem?_append_left (by omega)]; exact hvs, G, fun b hb => ?_, hR _ _ _ _ _ _ (fun _ h => h) (fun b hb hlt => ?_) hRj⟩
      · obtain ⟨g1, g2, g3⟩ := hG b hb
        refine ⟨g1, by omega, ?_⟩
        rcases hat with e | e
        · rw [e]; exact g3
        · rw [e]; intro e2; injection e2 with e3; omega
      · obtain ⟨g1, g2, g3⟩ := hG b hb
        exact keyr b g2 (by omega) g3
    · have hj : j = l.length := by
        have := (List.getElem?_eq_some_iff.1 hx').1
        simp at this
        omega
      subst hj
      have hxx : x' = x := by simpa using hx'.symm
      subst hxx
      refine ⟨y, by rw [hl, ← hL]; simp, _, fun b hb => ?_, hR _ _ _ _ _ _ (fun _ h => h) (fun b hb hlt => ?_) hRx⟩
      · refine ⟨by omega, by omega, ?_⟩
        rcases hat with e | e
        · rw [e]; intro e2; have := hob b e2; omega
        · rw [e]; intro e2; injection e2 with e3; omega
      · exact key b hlt (fun e => by have := hob b e; omega)
end Go.Proofs.YtmhhcfceikcfbaaGreat
