/- The checker's state; walks: an id checked and kept. -/
import Derived.Test.YtmhhcfceikcfbaaGreatDfM3
namespace Go.Proofs.YtmhhcfceikcfbaaGreat
open Go.RowKit Go.MapKept
/-- The blocks below stay, but for two. -/
structure Ch (c m : Nat) (w w' : World) : Prop where
 os : w'.os = w.os
 tape : w'.tape = w.tape
 output : w'.output = w.output
 size : w.heap.size ≤ w'.heap.size
 block : ∀ k, k < w.heap.size → k ≠ c → k ≠ m → w'.heap[k]? = w.heap[k]?
theorem Ch.refl (c m : Nat) (w : World) : Ch c m w w := ⟨rfl, rfl, rfl, Nat.le_refl _, fun _ _ _ _ => rfl⟩
theorem Ch.trans {c m : Nat} {a b d : World} (h : Ch c m a b) (k : Ch c m b d) : Ch c m a d :=
 ⟨k.os.trans h.os, k.tape.trans h.tape, k.output.trans h.output, Nat.le_trans h.size k.size, fun i hi h1 h2 => (k.block i (Nat.lt_of_lt_of_le hi h.size) h1 h2).trans (h.block i hi h1 h2)⟩
theorem Ch.of_below {c m : Nat} {w w' : World} (h : Below w.heap.size w w') : Ch c m w w' := ⟨h.os, h.tape, h.output, h.size, fun k hk _ _ => h.block k hk⟩
theorem Ch.of_c {c m : Nat} {w w' : World} (h : w.grownBy w' (some c)) : Ch c m w w' := ⟨h.os, h.tape, h.output, h.size, fun k hk h1 _ => h.block k hk (fun e => h1 (Option.some.inj e))⟩
theorem Ch.of_m {c m : Nat} {w w' : World} (h : w.grownBy w' (some m)) : Ch c m w w' := ⟨h.os, h.tape, h.output, h.size, fun k hk _ h2 => h.block k hk (fun e => h2 (Option.some.inj e))⟩
theorem Ch.below {c m N : Nat} {w w' : World} (h : Ch c m w w') (hc : N ≤ c) (hm : N ≤ m) (hw : N ≤ w.heap.size) : Below N w w' := ⟨h.os, h.tape, h.output, h.size, fun k hk => h.block k (Nat.lt_of_lt_of_le hk hw) (by omega) (by omega)⟩
theorem Ch.blk {c m g : Nat} {w w' : World} {cs : Array Value} {t : TypeId} (h : Ch c m w w') (hg : w.heap[g]? = some (.cells cs t (0, 0))) (h1 : g ≠ c) (h2 : g ≠ m) : w'.heap[g]? = some (.cells cs t (0, 0)) := (h.block g (lt_of_blk hg) h1 h2).trans hg
/-- A document's checker: where its parts lie, what it knows. -/
structure CK where
 N : Nat
 c : Nat
 m1 : Nat
 m2 : Nat
 m3 : Nat
 m4 : Nat
 m5 : Nat
 st : Int → Option Int
 ls : Int → Bool
 rv : Int → Bool
/-- The ids of the elements before; how many units. -/
abbrev Sta := (Int → Bool) × Int
structure CkAt (K : CK) (s : Sta) (w : World) : Prop where
 blk : w.heap[K.c]? = some (.cells #[.map (some K.m1), .map (some K.m2), .map (some K.m3), .map (some K.m4), .map (some K.m5), .int .i64 s.2] 130 (0, 0))
 h1 : NumAt K.st K.m1 w
 h2 : SetAt K.ls K.m2 w
 h3 : SetAt K.rv K.m3 w
 h4 : SetAt s.1 K.m4 w
 h5 : SetAt (fun _ => false) K.m5 w
 d1 : K.m1 ≠ K.m4
 d2 : K.m2 ≠ K.m4
 d3 : K.m3 ≠ K.m4
 d5 : K.m5 ≠ K.m4
 dc : K.c ≠ K.m4
 e1 : K.m1 ≠ K.c
 e2 : K.m2 ≠ K.c
 e3 : K.m3 ≠ K.c
 e5 : K.m5 ≠ K.c
 nc : K.N ≤ K.c
 nm : K.N ≤ K.m4
theorem CkAt.over {K : CK} {s : Sta} {w w' : World} (h : CkAt K s w) (hb : Below w.heap.size w w') : CkAt K s w' :=
 ⟨blk_ov h.blk hb, h.h1.over hb, h.h2.over hb, h.h3.over hb, h.h4.over hb, h.h5.over hb, h.d1, h.d2, h.d3, h.d5, h.dc, h.e1, h.e2, h.e3, h.e5, h.nc, h.nm⟩
theorem CkAt.size {K : CK} {s : Sta} {w : World} (h : CkAt K s w) : K.c < w.heap.size ∧ K.m4 < w.heap.size := ⟨lt_of_blk h.blk, FunAt.lt h.h4⟩
theorem CkAt.le {K : CK} {s : Sta} {w : World} (h : CkAt K s w) : K.N ≤ w.heap.size := by have := h.size; have := h.nc; omega
/-- Another count of units. -/
theorem CkAt.units {K : CK} {s : Sta} {w w' : World} {v : Int} (h : CkAt K s w) (hb : w'.heap[K.c]? = some (.cells #[.map (some K.m1), .map (some K.m2), .map (some K.m3), .map (some K.m4), .map (some K.m5), .int .i64 v] 130 (0, 0))) (hg : w.grownBy w' (some K.c)) : CkAt K (s.1, v) w' :=
 have q : ∀ k, k < w.heap.size → k ≠ K.c → w'.heap[k]? = w.heap[k]? := fun k h1 h2 => hg.block k h1 (fun e => h2 (Option.some.inj e))
 ⟨hb, h.h1.kept (q _ (FunAt.lt h.h1) h.e1), h.h2.kept (q _ (FunAt.lt h.h2) h.e2), h.h3.kept (q _ (FunAt.lt h.h3) h.e3), h.h4.kept (q _ (FunAt.lt h.h4) (Ne.symm h.dc)), h.h5.kept (q _ (FunAt.lt h.h5) h.e5), h.d1, h.d2, h.d3, h.d5, h.dc, h.e1, h.e2, h.e3, h.e5, h.nc, h.nm⟩
/-- Another set of ids. -/
theorem CkAt.ids {K : CK} {s : Sta} {w w' : World} {S : Int → Bool} (h : CkAt K s w) (hb : SetAt S K.m4 w') (hg : w.grownBy w' (some K.m4)) : CkAt K (S, s.2) w' :=
 have q : ∀ k, k < w.heap.size → k ≠ K.m4 → w'.heap[k]? = w.heap[k]? := fun k h1 h2 => hg.block k h1 (fun e => h2 (Option.some.inj e))
 ⟨(q _ h.size.1 h.dc).trans h.blk, h.h1.kept (q _ (FunAt.lt h.h1) h.d1), h.h2.kept (q _ (FunAt.lt h.h2) h.d2), h.h3.kept (q _ (FunAt.lt h.h3) h.d3), hb, h.h5.kept (q _ (FunAt.lt h.h5) h.d5), h.d1, h.d2, h.d3, h.d5, h.dc, h.e1, h.e2, h.e3, h.e5, h.nc, h.nm⟩
/-- What a method of the checker answers, and how it leaves the checker. -/
def CkP (K : CK) (w : World) (r : Int × Sta) (e : Ending) (w' : World) : Prop := e = .returned (.int .i64 r.1) ∧ Ch K.c K.m4 w w' ∧ CkAt K r.2 w'
def idS (v : Int) (s : Sta) : Int × Sta := if inB v 1 1073741824 = false then (18, s) else if s.1 v = true then (7, s) else (0, (putF s.1 v true, s.2))
theorem sq_update {Q : Exit → Act → World → Prop} {S : World → Prop} {o : Oper} {r : List (Bool × Oper)} {a : Act} {w : World} (m x v : Operand) (ho : o.op = .mapUpdate 128 m x v) (b : Nat) (F : Int → Bool) (z : Int)
  (hm : a.eval m = .map (some b)) (hx : a.eval x = .int .i64 z) (hv : a.eval v = .bool true) (hF : SetAt F b w)
  (h : ∀ w', SetAt (putF F z true) b w' → w.grownBy w' (some b) → S w' ∧ wpSq Tryz.prog Q S r (a.put o.dst undef) w') : wpSq Tryz.prog Q S ((false, o) :: r) a w := by
 obtain ⟨w', h1, h2, h3⟩ := hF.update z
 obtain ⟨k1, k2⟩ := h w' h2 h3
 exact sq_skip w' (by simp [execOp, ho, hm, hx, hv, h1, Result.andThen]) k1 k2
theorem sq_updateN {Q : Exit → Act → World → Prop} {S : World → Prop} {o : Oper} {r : List (Bool × Oper)} {a : Act} {w : World} (m x v : Operand) (ho : o.op = .mapUpdate 127 m x v) (b : Nat) (F : Int → Option Int) (z y : Int)
  (hm : a.eval m = .map (some b)) (hx : a.eval x = .int .i64 z) (hv : a.eval v = .int .i64 y) (hF : NumAt F b w)
  (h : ∀ w', NumAt (putF F z (some y)) b w' → w.grownBy w' (some b) → S w' ∧ wpSq Tryz.prog Q S r (a.put o.dst undef) w') : wpSq Tryz.prog Q S ((false, o) :: r) a w := by
 obtain ⟨w', h1, h2, h3⟩ := hF.update z y
 obtain ⟨k1, k2⟩ := h w' h2 h3
 exact sq_skip w' (by simp [execOp, ho, hm, hx, hv, h1, Result.andThen]) k1 k2
set_option maxRecDepth 100000 in
set_option maxHeartbeats 4000000 in
theorem id191 (K : CK) (v : Int) (s : Sta) (w : World) (hK : CkAt K s w) : Calls Tryz.prog 191 #[.pointer (some ⟨K.c, 0, none⟩), .int .i64 v] w (CkP K w (idS v s)) := by
 obtain ⟨R, hR⟩ : ∃ R, R = idS v s := ⟨_, rfl⟩
 rw [← hR]
 unfold idS at hR
 obtain ⟨bf, u⟩ := s
 have HK := Lib.hid hK
 have hcb := hK.blk
 have h4 := hK.h4
 have h5 := hK.h5
 obtain ⟨N, c, m1, m2, m3, m4, m5, st, ls, rv⟩ := K
 simp only at hcb h4 h5 hR ⊢
 clear hK
 obtain ⟨ib, hib⟩ : ∃ b, b = inB v 1 1073741824 := ⟨_, rfl⟩
 have C : Hid (∀ W, Calls Tryz.prog 107 #[.int .i64 v, .int .i64 1, .int .i64 1073741824] W fun e w' => e = .returned (.bool ib) ∧ W = w') := Lib.hid (fun W => by rw [hib]; exact in107 v 1 1073741824 W)
 rw [← hib] at hR
 clear hib
 cases ib
 case false =>
  have HF := Lib.hid (show CkP ⟨N, c, m1, m2, m3, m4, m5, st, ls, rv⟩ w R (.returned (.int .i64 18)) w from ⟨by rw [hR]; rfl, Ch.refl _ _ _, by rw [hR]; exact HK.out⟩)
  clear hR h4 h5 hcb HK
  go_enter Tryz.func191, Tryz.ntmps191
  go_upto_region 1 with fail
  refine wp_region_guard0 ?_
  simp only [List.map]
  refine hd_run rfl ?_
  refine sq_pure (.int .i64 v) (by go_simp) trivial ?_
  refine sq_done ?_
  simp only [Act.put, PutA, PutZ, PutS]
  refine hd_run rfl ?_
  refine sq_call 107 #[.int .i64 v, .int .i64 1, .int .i64 1073741824] (by go_simp) ?_
  refine Calls.mono (C.out _) ?_
  rintro e wp1 ⟨rfl, rfl⟩
  refine ⟨_, rfl, trivial, ?_⟩
  refine sq_done ?_
  simp only [Act.put, PutA, PutZ, PutS]
  refine hd_run rfl ?_
  refine sq_pure (.bool true) (by go_simp) trivial ?_
  refine sq_done ?_
  simp only [Act.put, PutA, PutZ, PutS]
  refine hd_run rfl ?_
  refine sq_pure (.bool true) (by go_simp) trivial ?_
  refine sq_done ?_
  simp only [Act.put, PutA, PutZ, PutS]
  refine hd_offs rfl trivial ?_
  simp only [Act.put, PutA, PutZ, PutS]
  refine hd_offs rfl trivial ?_
  simp only [Act.put, PutA, PutZ, PutS]
  refine hd_offs rfl trivial ?_
  simp only [Act.put, PutA, PutZ, PutS]
  refine hd_offs rfl trivial ?_
  simp only [Act.put, PutA, PutZ, PutS]
  refine hd_offs rfl trivial ?_
  simp only [Act.put, PutA, PutZ, PutS]
  refine hd_offs rfl trivial ?_
  simp only [Act.put, PutA, PutZ, PutS]
  refine hd_run rfl ?_
  refine sq_pure (.bool true) (by go_simp) trivial ?_
  refine sq_done ?_
  simp only [Act.put, PutA, PutZ, PutS]
  refine hd_run rfl ?_
  refine sq_pure (.bool true) (by go_simp) trivial ?_
  refine sq_done ?_
  simp only [Act.put, PutA, PutZ, PutS]
  refine NoPanic.normal (NoPanic.normal ?_)
  go_wp2_with fail
  go_ret
  exact HF.out
 case true =>
  replace hR : R = if bf v = true then (7, (bf, u)) else (0, (putF bf v true, u)) := hR
  go_enter Tryz.func191, Tryz.ntmps191
  go_upto_region 1 with fail
  refine wp_region_guard0 ?_
  simp only [List.map]
  refine hd_run rfl ?_
  refine sq_pure (.int .i64 v) (by go_simp) trivial ?_
  refine sq_done ?_
  simp only [Act.put, PutA, PutZ, PutS]
  refine hd_run rfl ?_
  refine sq_call 107 #[.int .i64 v, .int .i64 1, .int .i64 1073741824] (by go_simp) ?_
  refine Calls.mono (C.out _) ?_
  rintro e wp1 ⟨rfl, rfl⟩
  refine ⟨_, rfl, trivial, ?_⟩
  refine sq_done ?_
  simp only [Act.put, PutA, PutZ, PutS]
  refine hd_run rfl ?_
  refine sq_pure (.bool false) (by go_simp) trivial ?_
  refine sq_done ?_
  simp only [Act.put, PutA, PutZ, PutS]
  refine hd_run rfl ?_
  refine sq_pure (.bool false) (by go_simp) trivial ?_
  refine sq_done ?_
  simp only [Act.put, PutA, PutZ, PutS]
  refine hd_run rfl ?_
  refine sq_pure (.pointer (some ⟨c, 0, none⟩)) (by go_simp) trivial ?_
  refine sq_done ?_
  simp only [Act.put, PutA, PutZ, PutS]
  refine hd_run rfl ?_
  refine sq_pure (.pointer (some ⟨c, 0, none⟩)) (by go_simp) trivial ?_
  refine sq_done ?_
  simp only [Act.put, PutA, PutZ, PutS]
  refine hd_run rfl ?_
  refine sq_pure (.pointer (some ⟨c, 4, none⟩)) (by go_simp) trivial ?_
  refine sq_done ?_
  simp only [Act.put, PutA, PutZ, PutS]
  refine hd_run rfl ?_
  refine sq_pure (.map (some m5)) (by have q0 := blk_cell hcb 4; go_simp) trivial ?_
  refine sq_done ?_
  simp only [Act.put, PutA, PutZ, PutS]
  refine hd_run rfl ?_
  refine sq_pure (.int .i64 v) (by go_simp) trivial ?_
  refine sq_done ?_
  simp only [Act.put, PutA, PutZ, PutS]
  refine hd_run rfl ?_
  refine sq_pure (.bool false) (by have q0 := SetAt.look h5 v; go_simp) trivial ?_
  refine sq_done ?_
  simp only [Act.put, PutA, PutZ, PutS]
  refine hd_run rfl ?_
  refine sq_pure (.bool false) (by go_simp) trivial ?_
  refine sq_done ?_
  simp only [Act.put, PutA, PutZ, PutS]
  refine hd_run rfl ?_
  refine sq_pure (.bool false) (by go_simp) trivial ?_
  refine sq_done ?_
  simp only [Act.put, PutA, PutZ, PutS]
  refine NoPanic.normal (NoPanic.normal ?_)
  go_upto_region 3 with fail
  refine wp_region_seq0 (by rfl) ?_
  simp only [List.map]
  refine sq_pure (.pointer (some ⟨c, 0, none⟩)) (by go_simp) trivial ?_
  simp only [Act.put, PutA, PutZ, PutS]
  refine sq_pure (.pointer (some ⟨c, 0, none⟩)) (by go_simp) trivial ?_
  simp only [Act.put, PutA, PutZ, PutS]
  refine sq_pure (.pointer (some ⟨c, 3, none⟩)) (by go_simp) trivial ?_
  simp only [Act.put, PutA, PutZ, PutS]
  refine sq_pure (.map (some m4)) (by have q0 := blk_cell hcb 3; go_simp) trivial ?_
  simp only [Act.put, PutA, PutZ, PutS]
  refine sq_pure (.int .i64 v) (by go_simp) trivial ?_
  simp only [Act.put, PutA, PutZ, PutS]
  refine sq_pure (.bool (bf v)) (by have q0 := SetAt.look h4 v; go_simp) trivial ?_
  simp only [Act.put, PutA, PutZ, PutS]
  refine sq_pure (.bool (bf v)) (by go_simp) trivial ?_
  simp only [Act.put, PutA, PutZ, PutS]
  refine sq_done ?_
  obtain ⟨q, hq⟩ : ∃ q, q = bf v := ⟨_, rfl⟩
  rw [← hq] at hR ⊢
  clear hq
  cases q
  case true =>
   have HF := Lib.hid (show CkP ⟨N, c, m1, m2, m3, m4, m5, st, ls, rv⟩ w R (.returned (.int .i64 7)) w from ⟨by rw [hR]; rfl, Ch.refl _ _ _, by rw [hR]; exact HK.out⟩)
   clear hR h4 h5 hcb HK C
   go_wp2_with fail
   go_ret
   exact HF.out
  case false =>
   go_upto_region 5 with fail
   refine wp_region_seq0 (by rfl) ?_
   simp only [List.map]
   refine sq_pure (.pointer (some ⟨c, 0, none⟩)) (by go_simp) trivial ?_
   simp only [Act.put, PutA, PutZ, PutS]
   refine sq_pure (.pointer (some ⟨c, 0, none⟩)) (by go_simp) trivial ?_
   simp only [Act.put, PutA, PutZ, PutS]
   refine sq_pure (.pointer (some ⟨c, 3, none⟩)) (by go_simp) trivial ?_
   simp only [Act.put, PutA, PutZ, PutS]
   refine sq_pure (.map (some m4)) (by have q0 := blk_cell hcb 3; go_simp) trivial ?_
   simp only [Act.put, PutA, PutZ, PutS]
   refine sq_pure (.int .i64 v) (by go_simp) trivial ?_
   simp only [Act.put, PutA, PutZ, PutS]
   refine sq_update _ _ _ rfl m4 bf v rfl rfl rfl h4 ?_
   intro w2 hS hg
   refine ⟨trivial, ?_⟩
   have HF := Lib.hid (show CkP ⟨N, c, m1, m2, m3, m4, m5, st, ls, rv⟩ w R (.returned (.int .i64 0)) w2 from ⟨by rw [hR]; rfl, Ch.of_m hg, by rw [hR]; exact CkAt.ids HK.out hS hg⟩)
   clear hR h4 h5 hcb HK C hS hg
   refine sq_done ?_
   go_wp2_with fail
   go_ret
   exact HF.out
end Go.Proofs.YtmhhcfceikcfbaaGreat
