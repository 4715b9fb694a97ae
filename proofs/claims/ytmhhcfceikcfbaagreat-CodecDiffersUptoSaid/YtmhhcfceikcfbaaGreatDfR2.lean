/- Walks: what the readers read by numbers: sizes, texts, Booleans; a reader's end. -/
import Derived.Deep.RegionHeld3
import Derived.Deep.Cut
import Derived.Maps.AppendAt
import Derived.Test.YtmhhcfceikcfbaaGreatDfL1
namespace Go.Proofs.YtmhhcfceikcfbaaGreat
open Go.RowKit
theorem Res.ok0 {α : Type} {p : Rd α} {s : ByteArray} {k k' : Nat} {e : Int} {x : α} (h : Res p s k e x k' 0) : e = 0 ∧ ∃ n, p ((bytesN s).drop k) = .ok x n ∧ k' = k + n := by
 have h0 : e = 0 := by
  rcases Int.decEq e 0 with q | q
  ·exact (h.2.1 q).symm
  ·exact q
 have h2 := h.2.2 h0
 cases hq : p ((bytesN s).drop k) with
 | ok y n => rw [hq] at h2; obtain ⟨rfl, h3, _⟩ := h2; exact ⟨h0, n, rfl, h3⟩
 | err E => rw [hq] at h2; exact absurd h2.1.symm h2.2
set_option maxRecDepth 100000 in
set_option maxHeartbeats 4000000 in
theorem number43_any (r k0 : Nat) (s : ByteArray) (e0 : Int) (w : World) (h : Rdr 99 r s k0 e0 w) (hk : k0 ≤ s.size) (hs : s.size ≤ 1099511627776) :
  Calls Tryz.prog 43 #[.pointer (some ⟨r, 0, none⟩)] w fun e w' => ∃ x k' e', e = .returned (.int .i64 x) ∧ I64 x ∧ Rdr 99 r s k' e' w' ∧ w.grownBy w' (some r) ∧ Res rdN s k0 e0 x k' e' := by
 rcases Int.decEq e0 0 with he | he
 ·obtain ⟨c0, c1, c2, f1, f2⟩ := h.cells
  have d0 : (e0 == 0) = false := by simpa using he
  have HH := Lib.hid h
  have HE := Lib.hid he
  clear h he
  go_enter Tryz.func43, Tryz.ntmps43
  go_wp2_with fail
  go_loopw [3, 4] (fun uv iv wr => uv = .int .u64 0 ∧ iv = .int .i64 0 ∧ wr = w) (fun _ _ _ => 0)
  case atStart => exact ⟨rfl, rfl, rfl⟩
  case round =>
   obtain ⟨rfl, rfl, hw⟩ := hrel
   subst hw
   go_wp2_with fail
   go_ret
   exact ⟨0, k0, e0, rfl, by unfold I64; omega, HH.out, grown_refl _ _, hk, fun _ => rfl, fun h => absurd h HE.out⟩
 ·subst he
  exact number43 r k0 s w h hk hs
end Go.Proofs.YtmhhcfceikcfbaaGreat
namespace Go.Proofs.YtmhhcfceikcfbaaGreat
open Go.RowKit
theorem Res.seq {α β : Type} {p : Rd α} {q : Rd β} {s : ByteArray} {k k1 k2 : Nat} {e e1 e2 : Int} {x : α} {y : β} (h : Res p s k e x k1 e1) (g : Res q s k1 e1 y k2 e2) : Res (seqR p q) s k e (x, y) k2 e2 := by
 refine ⟨g.1, fun he => ?_, fun he => ?_⟩
 ·have h1 := h.2.1 he
  rw [← h1] at he ⊢
  exact g.2.1 he
 ·have h1 := h.2.2 he
  unfold seqR bnd
  cases hp : p ((bytesN s).drop k) with
  | err E =>
   rw [hp] at h1
   obtain ⟨h2, h3⟩ := h1
   rw [← h2] at h3
   have h4 := g.2.1 h3
   exact ⟨by rw [h4, h2], by rw [← h2]; exact h3⟩
  | ok z n =>
   rw [hp] at h1
   obtain ⟨rfl, h2, h3⟩ := h1
   have g1 := g.2.2 h3
   simp only [List.drop_drop, ← h2]
   cases hq : q ((bytesN s).drop k1) with
   | err E => rw [hq] at g1; exact g1
   | ok y2 m =>
    rw [hq] at g1
    obtain ⟨rfl, g2, g3⟩ := g1
    exact ⟨rfl, by rw [g2, h2]; simp; omega, g3⟩
theorem Rdr.alloc {ty : TypeId} {r k : Nat} {s : ByteArray} {e : Int} {w : World} (h : Rdr ty r s k e w) (o : Obj) : Rdr ty r s k e (w.alloc o) := by
 unfold Rdr at h ⊢
 have hl : r < w.heap.size := by
  rcases Nat.lt_or_ge r w.heap.size with q | q
  ·exact q
  ·rw [Array.getElem?_eq_none q] at h; exact absurd h (by simp)
 rw [← h]
 exact Array.getElem?_push_lt hl ▸ (Array.getElem?_eq_getElem hl).symm ▸ rfl
theorem grown_cell {a b : World} {r : Nat} (h : a.grownBy b (some r)) {x : Addr} {v : Value} (hx : a.cell? x = some v) (hn : x.block ≠ r) : b.cell? x = some v := by
 have hl := World.block_lt_of_cell? _ _ hx
 exact (World.cell?_of_block (h.block x.block hl (fun e => hn (by injection e)))).trans hx
theorem lt_of_blk {a : World} {g : Nat} {o : Obj} (hx : a.heap[g]? = some o) : g < a.heap.size := by
 rcases Nat.lt_or_ge g a.heap.size with q | q
 ·exact q
 ·rw [Array.getElem?_eq_none q] at hx; exact absurd hx (by simp)
theorem blk_over {a b : World} {r g : Nat} {o : Obj} (h : a.grownBy b (some r)) (hx : a.heap[g]? = some o) (hn : g ≠ r) : b.heap[g]? = some o :=
 (h.block g (lt_of_blk hx) (fun e => hn (by injection e))).trans hx
/-- A list read on by one element. -/
theorem many_snoc {α : Type} (p : Rd α) (n : Nat) (l : List Nat) : manyR p (n + 1) l = match manyR p n l with
  | .ok r k => (match p (l.drop k) with | .ok x m => .ok (r ++ [x]) (k + m) | .err e => .err e)
  | .err e => .err e := by
 induction n generalizing l with
 | zero =>
  rw [many_cons]
  show _ = (match p (l.drop 0) with | Rs.ok x m => Rs.ok ([] ++ [x]) (0 + m) | Rs.err e => Rs.err e)
  rw [List.drop_zero]
  cases p l with
  | ok x m => show Rs.ok [x] (m + 0) = Rs.ok [x] (0 + m); rw [Nat.add_comm]
  | err e => rfl
 | succ n ih =>
  rw [many_cons, many_cons]
  cases hp : p l with
  | err e => rfl
  | ok x k =>
   simp only
   rw [ih]
   cases hm : manyR p n (l.drop k) with
   | err e => rfl
   | ok r k2 =>
    simp only
    rw [List.drop_drop]
    cases p (l.drop (k + k2)) with
    | err e => rfl
    | ok y k3 => simp [Nat.add_assoc]
theorem Res.snoc {α : Type} {p : Rd α} {s : ByteArray} {k k1 k2 i : Nat} {e e2 : Int} {l : List α} {x : α} (h : Res (manyR p i) s k e l k1 0) (g : Res p s k1 0 x k2 e2) : Res (manyR p (i + 1)) s k e (l ++ [x]) k2 e2 := by
 obtain ⟨rfl, n, hp, hn⟩ := h.ok0
 refine ⟨g.1, fun q => absurd rfl q, fun _ => ?_⟩
 have g2 := g.2.2 rfl
 rw [many_snoc, hp]
 simp only
 rw [List.drop_drop, ← hn]
 cases hq : p ((bytesN s).drop k1) with
 | err E => rw [hq] at g2; exact g2
 | ok y m =>
  rw [hq] at g2
  obtain ⟨rfl, g3, g4⟩ := g2
  exact ⟨rfl, by omega, g4⟩
theorem Res.many0 {α : Type} (p : Rd α) (s : ByteArray) (k : Nat) (e : Int) (hk : k ≤ s.size) : Res (manyR p 0) s k e [] k e :=
 ⟨hk, fun _ => rfl, fun h => ⟨rfl, rfl, h⟩⟩
/-- A size and its elements are a list. -/
theorem Res.list {α : Type} {p : Rd α} {s : ByteArray} {k k1 k2 n : Nat} {e e1 e2 : Int} {l : List α} (h : Res rdS s k e n k1 e1) (g : Res (manyR p n) s k1 e1 l k2 e2) : Res (listR p) s k e l k2 e2 := by
 refine ⟨g.1, fun he => ?_, fun he => ?_⟩
 ·have h1 := h.2.1 he
  rw [← h1] at he ⊢
  exact g.2.1 he
 ·have h1 := h.2.2 he
  unfold listR bnd
  cases hp : rdS ((bytesN s).drop k) with
  | err E =>
   rw [hp] at h1
   obtain ⟨h2, h3⟩ := h1
   rw [← h2] at h3
   have h4 := g.2.1 h3
   exact ⟨by rw [h4, h2], by rw [← h2]; exact h3⟩
  | ok z m =>
   rw [hp] at h1
   obtain ⟨rfl, h2, h3⟩ := h1
   have g1 := g.2.2 h3
   simp only [List.drop_drop, ← h2]
   cases hq : manyR p n ((bytesN s).drop k1) with
   | err E => rw [hq] at g1; exact g1
   | ok y2 j =>
    rw [hq] at g1
    obtain ⟨rfl, g2, g3⟩ := g1
    exact ⟨rfl, by omega, g3⟩
end Go.Proofs.YtmhhcfceikcfbaaGreat
namespace Go.Proofs.YtmhhcfceikcfbaaGreat
open Go.RowKit
end Go.Proofs.YtmhhcfceikcfbaaGreat
namespace Go.Proofs.YtmhhcfceikcfbaaGreat
open Go.RowKit
theorem wpList_push_at {α : Type} {enc : α → List Value} {P : Program} (w : World) {ops : Array Oper} {rest : List Oper} {o : Oper} {a : Act} {Q : Exit → Act → World → Prop}
  (hgd : o.guard = none) (s x : Operand) (t : TypeId)
  (ho : o.op = .call { callee := .builtin .append, args := #[s, x], argTypes := #[t, t] })
  (base : Nat) (E : TypeId) (i : TypeInfo) (z : Value) (sz bytes : Nat) (ht : P.underlying t = some (.slice E)) (hi : P.info? E = some i) (hz : i.zero = some z)
  (hsize : i.size = sz) (hby : i.bytes = bytes) (hzs : z.cells.size = sz) (hsz : 0 < sz) (he : ∀ x, (enc x).length = sz) (h1 : ∀ x, ∀ u ∈ enc x, u.oneCell' = true)
  (v : Value) (l : List α) (hs : a.eval s = v) (hown : Own enc sz E w base v l)
  (g c : Nat) (y : α) (hx : a.eval x = .slice (some ⟨g, 0, none⟩) 1 c) (hcell : ∀ j u, (enc y)[j]? = some u → w.cell? ⟨g, j, none⟩ = some u)
  (hbytes : (l.length + 1) * bytes ≤ 140737488355328) (hlen : l.length < 140737488355328) (hbase : base ≤ w.heap.size)
  (h : ∀ v' w', Own enc sz E w' base v' (l ++ [y]) → w.grownBy w' v.ownBlock → (v'.ownBlock = v.ownBlock ∨ v'.ownBlock = some w.heap.size) → wpList P ops Q rest (a.put o.dst v') w') : wpList P ops Q (o :: rest) a w := by
 refine wpList_append_own_at _ hgd s x t ho base E i z sz bytes ht hi hz hsize hby hzs hsz v l.length (l.flatMap enc) hs hown ⟨g, 0, none⟩ 1 c (enc y) hx (by rw [he, Nat.one_mul]) ?_ (h1 y) ?_ hbytes hbase ?_
 ·intro j u hu
  rw [addr_add, Nat.zero_add]
  exact hcell j u hu
 ·simp only [maxLen]; omega
 ·intro v' w' hown' hg _ hat
  refine h v' w' ?_ hg hat
  unfold Own
  rw [List.length_append, List.flatMap_append]
  simpa using hown'
theorem Own.base_le {α : Type} {enc : α → List Value} {sz : Nat} {E : TypeId} {w : World} {base g : Nat} {v : Value} {l : List α} (h : Own enc sz E w base v l) (hg : v.ownBlock = some g) : base ≤ g ∧ g < w.heap.size := by
 rcases h.2 with ⟨rfl, _⟩ | ⟨g', cap, cur, rfl, hb, hh, _⟩
 ·simp [Value.ownBlock] at hg
 ·have : g' = g := by simpa [Value.ownBlock] using hg
  subst this
  exact ⟨hb, lt_of_blk hh⟩
/-- An element's cells, whatever they hold. -/
def Cel (sz : Nat) := { vs : List Value // vs.length = sz ∧ ∀ u ∈ vs, u.oneCell' = true }
def Cel.val {sz : Nat} (x : Cel sz) : List Value := x.1
/-- What is read so far. -/
def GetI {α : Type} (R : Rp α) (p : Rd α) (sz : Nat) (E ty : TypeId) (r c : Nat) (s : ByteArray) (w : World) (k1 : Nat) (e1 : Int) (i k : Nat) (v : Value) (wr : World) : Prop :=
 ∃ (L : List (Cel sz)) (l : List α), Own Cel.val sz E wr w.heap.size v L ∧ L.length = i ∧ l.length = i ∧ Rdr ty r s k e1 wr ∧ w.grownBy wr (some r) ∧ Res (manyR p i) s k1 e1 l k e1 ∧ wr.cell? ⟨c, 0, none⟩ = some (.pointer (some ⟨r, 0, none⟩)) ∧
  ∀ (j : Nat) (x : α), l[j]? = some x → ∃ vs : Cel sz, L[j]? = some vs ∧ ∃ G : Nat → Prop, (∀ b, G b → w.heap.size ≤ b ∧ b < wr.heap.size ∧ v.ownBlock ≠ some b) ∧ R wr G vs.val x
theorem GetI.start {α : Type} (R : Rp α) (p : Rd α) (sz : Nat) (E ty : TypeId) {r c k : Nat} {s : ByteArray} {w w1 : World} {e1 : Int} (hk : k ≤ s.size) (hr : Rdr ty r s k e1 w1) (hg : w.grownBy w1 (some r)) (hc : w1.cell? ⟨c, 0, none⟩ = some (.pointer (some ⟨r, 0, none⟩))) :
  GetI R p sz E ty r c s w k e1 0 k (.slice none 0 0) w1 :=
 ⟨[], [], Own.nil _ _, rfl, rfl, hr, hg, Res.many0 p s k e1 hk, hc, fun j x h => by simp at h⟩
theorem GetI.push {α : Type} {R : Rp α} {p : Rd α} {sz : Nat} {E ty : TypeId} {r c : Nat} {s : ByteArray} {w : World} {k1 i k k2 : Nat} {v v' : Value} {wr w2 wa w' : World} {L : List (Cel sz)} {l : List α} {y : Cel sz} {x : α} (hR : Stb R) (hrw : r < w.heap.size) (hcw : c < w.heap.size)
  (hown : Own Cel.val sz E wr w.heap.size v L) (hL : L.length = i) (hl : l.length = i) (hg : w.grownBy wr (some r)) (hres : Res (manyR p i) s k1 0 l k 0)
  (hel : ∀ (j : Nat) (x : α), l[j]? = some x → ∃ vs : Cel sz, L[j]? = some vs ∧ ∃ G : Nat → Prop, (∀ b, G b → w.heap.size ≤ b ∧ b < wr.heap.size ∧ v.ownBlock ≠ some b) ∧ R wr G vs.val x)
  (hg2 : wr.grownBy w2 (some r)) (hr2 : Rdr ty r s k2 0 w2) (hc2 : w2.cell? ⟨c, 0, none⟩ = some (.pointer (some ⟨r, 0, none⟩))) (hres2 : Res p s k 0 x k2 0) (hRx : R w2 (fun b => wr.heap.size ≤ b ∧ b < w2.heap.size) y.val x)
  (hba : Below w2.heap.size w2 wa) (hown' : Own Cel.val sz E w' w.heap.size v' (L ++ [y])) (hgo : wa.grownBy w' v.ownBlock) (hat : v'.ownBlock = v.ownBlock ∨ v'.ownBlock = some wa.heap.size) :
  GetI R p sz E ty r c s w k1 0 (i + 1) k2 v' w' := by
 have z1 := hg.size
 have z2 := hg2.size
 have z3 := hba.size
 have z4 := hgo.size
 have hob : ∀ g, v.ownBlock = some g → w.heap.size ≤ g ∧ g < wr.heap.size := fun g h => hown.base_le h
 have key : ∀ b, b < w2.heap.size → v.ownBlock ≠ some b → w'.heap[b]? = w2.heap[b]? := fun b h1 h2 =>
  (hgo.block b (by omega) (fun e => h2 e.symm)).trans (hba.block b h1)
 have keyr : ∀ b, b < wr.heap.size → b ≠ r → v.ownBlock ≠ some b → w'.heap[b]? = wr.heap[b]? := fun b h1 h2 h3 =>
  (key b (by omega) h3).trans (hg2.block b h1 (fun e => h2 (by injection e)))
 have no : ∀ b, b < w.heap.size → v.ownBlock ≠ some b := fun b h e => by have := hob b e; omega
 refine ⟨L ++ [y], l ++ [x], hown', by simp [hL], by simp [hl], (key r (by omega) (no r hrw)).trans hr2, ?_, Res.snoc hres hres2, (World.cell?_of_block (a := ⟨c, 0, none⟩) (key c (by omega) (no c hcw))).trans hc2, ?_⟩
 ·refine ⟨(hgo.os.trans hba.os).trans (hg2.os.trans hg.os), (hgo.tape.trans hba.tape).trans (hg2.tape.trans hg.tape), (hgo.output.trans hba.output).trans (hg2.output.trans hg.output), by omega, fun b hb hbr => ?_⟩
  exact (keyr b (by omega) (fun e => hbr (by rw [e])) (no b hb)).trans (hg.block b hb hbr)
 ·intro j x' hx'
  rcases Nat.lt_or_ge j l.length with q | q
  ·rw [List.getElem?_append_left q] at hx'
   obtain ⟨vs, hvs, G, hG, hRj⟩ := hel j x' hx'
   refine ⟨vs, by rw [List.getElem?_append_left (by omega)]; exact hvs, G, fun b hb => ?_, hR _ _ _ _ _ _ (fun _ h => h) (fun b hb hlt => ?_) hRj⟩
   ·obtain ⟨g1, g2, g3⟩ := hG b hb
    refine ⟨g1, by omega, ?_⟩
    rcases hat with e | e
    ·rw [e]; exact g3
    ·rw [e]; intro e2; injection e2 with e3; omega
   ·obtain ⟨g1, g2, g3⟩ := hG b hb
    exact keyr b g2 (by omega) g3
  ·have hj : j = l.length := by
    have := (List.getElem?_eq_some_iff.1 hx').1
    simp at this
    omega
   subst hj
   have hxx : x' = x := by simpa using hx'.symm
   subst hxx
   refine ⟨y, by rw [hl, ← hL]; simp, _, fun b hb => ?_, hR _ _ _ _ _ _ (fun _ h => h) (fun b hb hlt => ?_) hRx⟩
   ·refine ⟨by omega, by omega, ?_⟩
    rcases hat with e | e
    ·rw [e]; intro e2; have := hob b e2; omega
    ·rw [e]; intro e2; injection e2 with e3; omega
   ·exact key b hlt (fun e => by have := hob b e; omega)
end Go.Proofs.YtmhhcfceikcfbaaGreat
