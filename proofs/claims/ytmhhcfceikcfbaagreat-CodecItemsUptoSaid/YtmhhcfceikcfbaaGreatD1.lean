/- Walks: DecodeSplice, DecodeEdit. -/
import Derived.Test.YtmhhcfceikcfbaaGreatTr
import Derived.Test.YtmhhcfceikcfbaaGreatR11
import Derived.Laws.ResultCell
namespace Go.Proofs.YtmhhcfceikcfbaaGreat
open Go.RowKit

theorem results_row_tmp {P : Program} {fn : Func} {p u : Tmp} {ty : TypeId} (h : fn.results = #[.cell p ty, .tmp u]) (tmps : Array Value) (w : World) (g : Nat) (t : TypeId) (cs : Array Value) (fr : Nat × Nat) (d : TypeDesc) (v2 : Value) (hq : tmps.getD u undef = v2)
    (hp : tmps.getD p undef = .pointer (some ⟨g, 0, none⟩)) (hg : w.heap[g]? = some (.cells cs t fr))
    (hu : P.underlying ty = some d) (hd : (match d with | .struct _ | .array _ _ => true | _ => false) = true) (hi : (P.info? ty).map (·.size) = some cs.size) :
    (results fn tmps).run P w = .ok (.tuple #[.agg cs, v2]) w := by
  rw [results_cell_tmp h, hp, hq]
  have e1 : (asAddr (.pointer (some ⟨g, 0, none⟩))).run P w = .ok ⟨g, 0, none⟩ w := rfl
  rw [e1, Result.andThen_ok, run_loadVar_row w g t ty cs fr d hg hu hd hi, Result.andThen_ok]
/-- The error of the whole. -/
def decErr {α : Type} (p : Rd α) (L : List Nat) : Int := match p L with | .ok _ n => if n < L.length then 15 else 0 | .err E => E
def DecC {α : Type} (R : Rp α) (p : Rd α) (z : α) (s : ByteArray) (w : World) (ex : Ending) (w' : World) : Prop :=
  Below w.heap.size w w' ∧ ∃ vs x, ex = .returned (.tuple #[.agg (List.toArray vs), .int .i64 (decErr p (bytesN s))]) ∧ R w' (Since w.heap.size w') vs x ∧ (∀ u ∈ vs, u.oneCell' = true) ∧
    (decErr p (bytesN s) ≠ 0 → x = z) ∧ (decErr p (bytesN s) = 0 → p (bytesN s) = .ok x s.size)
theorem dec_code {α : Type} {p : Rd α} {s : ByteArray} {x : α} {k : Nat} {e : Int} (h : Res p s 0 0 x k e) : (if k < s.size then errC e 15 else e) = decErr p (bytesN s) ∧ (decErr p (bytesN s) = 0 → p (bytesN s) = .ok x s.size) := by
  have hl : (bytesN s).length = s.size := by unfold bytesN; simp
  have h3 := h.2.2 rfl
  have h1 := h.1
  rw [List.drop_zero] at h3
  unfold decErr errC
  cases hq : p (bytesN s) with
  | ok y n =>
    rw [hq] at h3
    simp only at h3 ⊢
    obtain ⟨a, b, c⟩ := h3
    subst a b c
    rw [hl, Nat.zero_add]
    by_cases hn : n < s.size
    · simp [hn]
    · simp [hn]
      omega
  | err E =>
    rw [hq] at h3
    simp only at h3 ⊢
    obtain ⟨a, b⟩ := h3
    subst a
    exact ⟨by split <;> simp, fun q => absurd q b⟩
def hd00 : Hd := ([], 0, 0, [], [])
theorem hd00_rep (w : World) (G : Nat → Prop) : hdP w G [.slice none 0 0, .int .i64 0, .int .i64 0, .slice none 0 0, .slice none 0 0] hd00 :=
  ⟨_, _, _, rfl, (by show I64 0; unfold I64; omega), (by show I64 0; unfold I64; omega), Slv.nil _ _, Slv.nil _ _, Slv.nil _ _⟩
def pc0 (n : Nat) : Pc n := ([], [], [], hd00, ([], [], [], []))
theorem pc0_rep (n : Nat) (w : World) (G : Nat → Prop) : pcP n w G [.slice none 0 0, .slice none 0 0, .slice none 0 0, .slice none 0 0, .int .i64 0, .int .i64 0, .slice none 0 0, .slice none 0 0, .slice none 0 0, .slice none 0 0, .slice none 0 0, .slice none 0 0] (pc0 n) :=
  ⟨_, _, _, _, _, _, _, _, _, _, _, _, rfl, Slv.nil _ _, Slv.nil _ _, Slv.nil _ _, hd00_rep w G, ⟨_, _, _, _, rfl, Slv.nil _ _, Slv.nil _ _, Slv.nil _ _, Slv.nil _ _⟩⟩
def sp0 (n : Nat) : Sp n := (0, 0, 0, 0, pc0 n, pc0 n)
theorem sp0_rep (n : Nat) (w : World) (G : Nat → Prop) : spP n w G [.int .i64 0, .int .i64 0, .int .i64 0, .int .i64 0, .slice none 0 0, .slice none 0 0, .slice none 0 0, .slice none 0 0, .int .i64 0, .int .i64 0, .slice none 0 0, .slice none 0 0, .slice none 0 0, .slice none 0 0, .slice none 0 0, .slice none 0 0, .slice none 0 0, .slice none 0 0, .slice none 0 0, .slice none 0 0, .int .i64 0, .int .i64 0, .slice none 0 0, .slice none 0 0, .slice none 0 0, .slice none 0 0, .slice none 0 0, .slice none 0 0] (sp0 n) :=
  ⟨[.slice none 0 0, .slice none 0 0, .slice none 0 0, .slice none 0 0, .int .i64 0, .int .i64 0, .slice none 0 0, .slice none 0 0, .slice none 0 0, .slice none 0 0, .slice none 0 0, .slice none 0 0], [.slice none 0 0, .slice none 0 0, .slice none 0 0, .slice none 0 0, .int .i64 0, .int .i64 0, .slice none 0 0, .slice none 0 0, .slice none 0 0, .slice none 0 0, .slice none 0 0, .slice none 0 0], rfl, rfl, by unfold I64 sp0; simp, pc0_rep n w G, pc0_rep n w G⟩
def ed0 (n : Nat) : Ed n := ([0, 0, 0, 0, 0, 0, 0, 0, 0, 0], false, [], [], [], ([], [], [], []))
theorem ed0_rep (n : Nat) (w : World) (G : Nat → Prop) : edP n w G [.int .i64 0, .int .i64 0, .int .i64 0, .int .i64 0, .int .i64 0, .int .i64 0, .int .i64 0, .int .i64 0, .int .i64 0, .int .i64 0, .bool false, .slice none 0 0, .slice none 0 0, .slice none 0 0, .slice none 0 0, .slice none 0 0, .slice none 0 0, .slice none 0 0] (ed0 n) :=
  ⟨_, _, _, _, _, _, _, rfl, ⟨rfl, by unfold I64 ed0; simp⟩, Slv.nil _ _, Slv.nil _ _, Slv.nil _ _, ⟨_, _, _, _, rfl, Slv.nil _ _, Slv.nil _ _, Slv.nil _ _, Slv.nil _ _⟩⟩

set_option maxRecDepth 100000 in
set_option maxHeartbeats 4000000 in
theorem Dec35 (n : Nat) (s : ByteArray) (w : World) (hs : s.size ≤ 549755813888) (hn : s.size < n) :
    Calls Tryz.prog 35 #[.string s] w (DecC (spP n) (spR n) (sp0 n) s w) := by
  have HZ : (((w.alloc (.cells #[.int .i64 0, .int .i64 0, .int .i64 0, .int .i64 0, .slice none 0 0, .slice none 0 0, .slice none 0 0, .slice none 0 0, .int .i64 0, .int .i64 0, .slice none 0 0, .slice none 0 0, .slice none 0 0, .slice none 0 0, .slice none 0 0, .slice none 0 0, .slice none 0 0, .slice none 0 0, .slice none 0 0, .slice none 0 0, .int .i64 0, .int .i64 0, .slice none 0 0, .slice none 0 0, .slice none 0 0, .slice none 0 0, .slice none 0 0, .slice none 0 0] 77)).alloc (.cells #[.string s, .int .i64 0, .int .i64 0] 99)).alloc (.cells #[.int .i64 0, .int .i64 0, .int .i64 0, .int .i64 0, .slice none 0 0, .slice none 0 0, .slice none 0 0, .slice none 0 0, .int .i64 0, .int .i64 0, .slice none 0 0, .slice none 0 0, .slice none 0 0, .slice none 0 0, .slice none 0 0, .slice none 0 0, .slice none 0 0, .slice none 0 0, .slice none 0 0, .slice none 0 0, .int .i64 0, .int .i64 0, .slice none 0 0, .slice none 0 0, .slice none 0 0, .slice none 0 0, .slice none 0 0, .slice none 0 0] 77)).heap[w.heap.size]? = some (.cells #[.int .i64 0, .int .i64 0, .int .i64 0, .int .i64 0, .slice none 0 0, .slice none 0 0, .slice none 0 0, .slice none 0 0, .int .i64 0, .int .i64 0, .slice none 0 0, .slice none 0 0, .slice none 0 0, .slice none 0 0, .slice none 0 0, .slice none 0 0, .slice none 0 0, .slice none 0 0, .slice none 0 0, .slice none 0 0, .int .i64 0, .int .i64 0, .slice none 0 0, .slice none 0 0, .slice none 0 0, .slice none 0 0, .slice none 0 0, .slice none 0 0] 77 (0, 0)) := (Below.heap_alloc _ _ _ (by simp; omega)).trans ((Below.heap_alloc _ _ _ (by simp)).trans (heap_alloc_new w _))
  obtain ⟨k0, e0, hk0, he0, I0⟩ : ∃ (k0 : Nat) (e0 : Int), k0 = 0 ∧ e0 = 0 ∧ InvN 77 99 (w.heap.size + 1) (w.heap.size + 2) s w (w.heap.size + 3) k0 e0 #[.int .i64 0, .int .i64 0, .int .i64 0, .int .i64 0, .slice none 0 0, .slice none 0 0, .slice none 0 0, .slice none 0 0, .int .i64 0, .int .i64 0, .slice none 0 0, .slice none 0 0, .slice none 0 0, .slice none 0 0, .slice none 0 0, .slice none 0 0, .slice none 0 0, .slice none 0 0, .slice none 0 0, .slice none 0 0, .int .i64 0, .int .i64 0, .slice none 0 0, .slice none 0 0, .slice none 0 0, .slice none 0 0, .slice none 0 0, .slice none 0 0] (((w.alloc (.cells #[.int .i64 0, .int .i64 0, .int .i64 0, .int .i64 0, .slice none 0 0, .slice none 0 0, .slice none 0 0, .slice none 0 0, .int .i64 0, .int .i64 0, .slice none 0 0, .slice none 0 0, .slice none 0 0, .slice none 0 0, .slice none 0 0, .slice none 0 0, .slice none 0 0, .slice none 0 0, .slice none 0 0, .slice none 0 0, .int .i64 0, .int .i64 0, .slice none 0 0, .slice none 0 0, .slice none 0 0, .slice none 0 0, .slice none 0 0, .slice none 0 0] 77)).alloc (.cells #[.string s, .int .i64 0, .int .i64 0] 99)).alloc (.cells #[.int .i64 0, .int .i64 0, .int .i64 0, .int .i64 0, .slice none 0 0, .slice none 0 0, .slice none 0 0, .slice none 0 0, .int .i64 0, .int .i64 0, .slice none 0 0, .slice none 0 0, .slice none 0 0, .slice none 0 0, .slice none 0 0, .slice none 0 0, .slice none 0 0, .slice none 0 0, .slice none 0 0, .slice none 0 0, .int .i64 0, .int .i64 0, .slice none 0 0, .slice none 0 0, .slice none 0 0, .slice none 0 0, .slice none 0 0, .slice none 0 0] 77)) := ⟨0, 0, rfl, rfl, ⟨(Below.heap_alloc _ _ _ (by simp)).trans (heap_alloc_new' _ _ (by simp)), Nat.zero_le _, heap_alloc_new' _ _ (by simp), grown_alloc (grown_alloc (grown_alloc (grown_refl w (some (w.heap.size + 1))) _) _) _, by omega, by omega, by omega, by omega, by simp⟩⟩
  have D0 : e0 = 0 → s.size - k0 < n := fun _ => by omega
  go_enter Tryz.func35, Tryz.ntmps35
  go_upto_region 3 with fail
  refine wp_region_seq0 (by rfl) ?_
  simp only [List.map]
  refine sq_pure (.pointer (some ⟨w.heap.size + 1, 0, none⟩)) (by go_simp) trivial ?_
  simp only [Act.put, List.setIfInBounds_toArray, List.set_cons_zero, List.set_cons_succ]
  refine sq_call 43 #[.pointer (some ⟨w.heap.size + 1, 0, none⟩)] (by go_simp) ?_
  refine Calls.mono (number43_any (w.heap.size + 1) k0 s e0 _ I0.rdr I0.le (by omega)) ?_
  rintro e w1 ⟨x1, k1, e1, rfl, hx1, h1, hg, hs1⟩
  replace HZ := (hg.block _ (lt_of_blk HZ) (fun q => by injection q with q; omega)).trans HZ
  have I1 := I0.call h1 hs1.1 hg
  clear I0 h1 hg
  have D1 := deep_next D0 hs1
  clear D0
  refine ⟨_, rfl, trivial, ?_⟩
  simp only [Act.put, List.setIfInBounds_toArray, List.set_cons_zero, List.set_cons_succ]
  refine sq_pure (.pointer (some ⟨w.heap.size + 1, 0, none⟩)) (by go_simp) trivial ?_
  simp only [Act.put, List.setIfInBounds_toArray, List.set_cons_zero, List.set_cons_succ]
  refine sq_call 43 #[.pointer (some ⟨w.heap.size + 1, 0, none⟩)] (by go_simp) ?_
  refine Calls.mono (number43_any (w.heap.size + 1) k1 s e1 _ I1.rdr I1.le (by omega)) ?_
  rintro e w2 ⟨x2, k2, e2, rfl, hx2, h2, hg, hs2⟩
  replace HZ := (hg.block _ (lt_of_blk HZ) (fun q => by injection q with q; omega)).trans HZ
  have I2 := I1.call h2 hs2.1 hg
  clear I1 h2 hg
  have D2 := deep_next D1 hs2
  clear D1
  refine ⟨_, rfl, trivial, ?_⟩
  simp only [Act.put, List.setIfInBounds_toArray, List.set_cons_zero, List.set_cons_succ]
  refine sq_pure (.pointer (some ⟨w.heap.size + 1, 0, none⟩)) (by go_simp) trivial ?_
  simp only [Act.put, List.setIfInBounds_toArray, List.set_cons_zero, List.set_cons_succ]
  refine sq_call 43 #[.pointer (some ⟨w.heap.size + 1, 0, none⟩)] (by go_simp) ?_
  refine Calls.mono (number43_any (w.heap.size + 1) k2 s e2 _ I2.rdr I2.le (by omega)) ?_
  rintro e w3 ⟨x3, k3, e3, rfl, hx3, h3, hg, hs3⟩
  replace HZ := (hg.block _ (lt_of_blk HZ) (fun q => by injection q with q; omega)).trans HZ
  have I3 := I2.call h3 hs3.1 hg
  clear I2 h3 hg
  have D3 := deep_next D2 hs3
  clear D2
  refine ⟨_, rfl, trivial, ?_⟩
  simp only [Act.put, List.setIfInBounds_toArray, List.set_cons_zero, List.set_cons_succ]
  refine sq_pure (.pointer (some ⟨w.heap.size + 1, 0, none⟩)) (by go_simp) trivial ?_
  simp only [Act.put, List.setIfInBounds_toArray, List.set_cons_zero, List.set_cons_succ]
  refine sq_call 43 #[.pointer (some ⟨w.heap.size + 1, 0, none⟩)] (by go_simp) ?_
  refine Calls.mono (number43_any (w.heap.size + 1) k3 s e3 _ I3.rdr I3.le (by omega)) ?_
  rintro e w4 ⟨x4, k4, e4, rfl, hx4, h4, hg, hs4⟩
  replace HZ := (hg.block _ (lt_of_blk HZ) (fun q => by injection q with q; omega)).trans HZ
  have I4 := I3.call h4 hs4.1 hg
  clear I3 h4 hg
  have D4 := deep_next D3 hs4
  clear D3
  refine ⟨_, rfl, trivial, ?_⟩
  simp only [Act.put, List.setIfInBounds_toArray, List.set_cons_zero, List.set_cons_succ]
  refine sq_pure (.pointer (some ⟨(w.heap.size + 2), 0, none⟩)) (by go_simp) trivial ?_
  simp only [Act.put, List.setIfInBounds_toArray, List.set_cons_zero, List.set_cons_succ]
  refine sq_store 3 _ _ rfl rfl ((w.heap.size + 2)) 0 77 _ #[.int .i64 x1, .int .i64 0, .int .i64 0, .int .i64 0, .slice none 0 0, .slice none 0 0, .slice none 0 0, .slice none 0 0, .int .i64 0, .int .i64 0, .slice none 0 0, .slice none 0 0, .slice none 0 0, .slice none 0 0, .slice none 0 0, .slice none 0 0, .slice none 0 0, .slice none 0 0, .slice none 0 0, .slice none 0 0, .int .i64 0, .int .i64 0, .slice none 0 0, .slice none 0 0, .slice none 0 0, .slice none 0 0, .slice none 0 0, .slice none 0 0] [.int .i64 x1] rfl rfl I4.blk sz3 (one1 rfl) (putAll_mid [] [.int .i64 0] [.int .i64 0, .int .i64 0, .int .i64 0, .slice none 0 0, .slice none 0 0, .slice none 0 0, .slice none 0 0, .int .i64 0, .int .i64 0, .slice none 0 0, .slice none 0 0, .slice none 0 0, .slice none 0 0, .slice none 0 0, .slice none 0 0, .slice none 0 0, .slice none 0 0, .slice none 0 0, .slice none 0 0, .int .i64 0, .int .i64 0, .slice none 0 0, .slice none 0 0, .slice none 0 0, .slice none 0 0, .slice none 0 0, .slice none 0 0] [.int .i64 x1] rfl) (by simp) ?_
  intro w' hb hg
  replace HZ := (hg.block _ (lt_of_blk HZ) (fun q => by injection q with q; omega)).trans HZ
  replace I4 := I4.store hb hg
  clear hb hg
  refine ⟨trivial, ?_⟩
  refine sq_pure (.pointer (some ⟨(w.heap.size + 2), 1, none⟩)) (by go_simp) trivial ?_
  simp only [Act.put, List.setIfInBounds_toArray, List.set_cons_zero, List.set_cons_succ]
  refine sq_store 3 _ _ rfl rfl ((w.heap.size + 2)) 1 77 _ #[.int .i64 x1, .int .i64 x2, .int .i64 0, .int .i64 0, .slice none 0 0, .slice none 0 0, .slice none 0 0, .slice none 0 0, .int .i64 0, .int .i64 0, .slice none 0 0, .slice none 0 0, .slice none 0 0, .slice none 0 0, .slice none 0 0, .slice none 0 0, .slice none 0 0, .slice none 0 0, .slice none 0 0, .slice none 0 0, .int .i64 0, .int .i64 0, .slice none 0 0, .slice none 0 0, .slice none 0 0, .slice none 0 0, .slice none 0 0, .slice none 0 0] [.int .i64 x2] rfl rfl I4.blk sz3 (one1 rfl) (putAll_mid [.int .i64 x1] [.int .i64 0] [.int .i64 0, .int .i64 0, .slice none 0 0, .slice none 0 0, .slice none 0 0, .slice none 0 0, .int .i64 0, .int .i64 0, .slice none 0 0, .slice none 0 0, .slice none 0 0, .slice none 0 0, .slice none 0 0, .slice none 0 0, .slice none 0 0, .slice none 0 0, .slice none 0 0, .slice none 0 0, .int .i64 0, .int .i64 0, .slice none 0 0, .slice none 0 0, .slice none 0 0, .slice none 0 0, .slice none 0 0, .slice none 0 0] [.int .i64 x2] rfl) (by simp) ?_
  intro w' hb hg
  replace HZ := (hg.block _ (lt_of_blk HZ) (fun q => by injection q with q; omega)).trans HZ
  replace I4 := I4.store hb hg
  clear hb hg
  refine ⟨trivial, ?_⟩
  refine sq_pure (.pointer (some ⟨(w.heap.size + 2), 2, none⟩)) (by go_simp) trivial ?_
  simp only [Act.put, List.setIfInBounds_toArray, List.set_cons_zero, List.set_cons_succ]
  refine sq_store 3 _ _ rfl rfl ((w.heap.size + 2)) 2 77 _ #[.int .i64 x1, .int .i64 x2, .int .i64 x3, .int .i64 0, .slice none 0 0, .slice none 0 0, .slice none 0 0, .slice none 0 0, .int .i64 0, .int .i64 0, .slice none 0 0, .slice none 0 0, .slice none 0 0, .slice none 0 0, .slice none 0 0, .slice none 0 0, .slice none 0 0, .slice none 0 0, .slice none 0 0, .slice none 0 0, .int .i64 0, .int .i64 0, .slice none 0 0, .slice none 0 0, .slice none 0 0, .slice none 0 0, .slice none 0 0, .slice none 0 0] [.int .i64 x3] rfl rfl I4.blk sz3 (one1 rfl) (putAll_mid [.int .i64 x1, .int .i64 x2] [.int .i64 0] [.int .i64 0, .slice none 0 0, .slice none 0 0, .slice none 0 0, .slice none 0 0, .int .i64 0, .int .i64 0, .slice none 0 0, .slice none 0 0, .slice none 0 0, .slice none 0 0, .slice none 0 0, .slice none 0 0, .slice none 0 0, .slice none 0 0, .slice none 0 0, .slice none 0 0, .int .i64 0, .int .i64 0, .slice none 0 0, .slice none 0 0, .slice none 0 0, .slice none 0 0, .slice none 0 0, .slice none 0 0] [.int .i64 x3] rfl) (by simp) ?_
  intro w' hb hg
  replace HZ := (hg.block _ (lt_of_blk HZ) (fun q => by injection q with q; omega)).trans HZ
  replace I4 := I4.store hb hg
  clear hb hg
  refine ⟨trivial, ?_⟩
  refine sq_pure (.pointer (some ⟨(w.heap.size + 2), 3, none⟩)) (by go_simp) trivial ?_
  simp only [Act.put, List.setIfInBounds_toArray, List.set_cons_zero, List.set_cons_succ]
  refine sq_store 3 _ _ rfl rfl ((w.heap.size + 2)) 3 77 _ #[.int .i64 x1, .int .i64 x2, .int .i64 x3, .int .i64 x4, .slice none 0 0, .slice none 0 0, .slice none 0 0, .slice none 0 0, .int .i64 0, .int .i64 0, .slice none 0 0, .slice none 0 0, .slice none 0 0, .slice none 0 0, .slice none 0 0, .slice none 0 0, .slice none 0 0, .slice none 0 0, .slice none 0 0, .slice none 0 0, .int .i64 0, .int .i64 0, .slice none 0 0, .slice none 0 0, .slice none 0 0, .slice none 0 0, .slice none 0 0, .slice none 0 0] [.int .i64 x4] rfl rfl I4.blk sz3 (one1 rfl) (putAll_mid [.int .i64 x1, .int .i64 x2, .int .i64 x3] [.int .i64 0] [.slice none 0 0, .slice none 0 0, .slice none 0 0, .slice none 0 0, .int .i64 0, .int .i64 0, .slice none 0 0, .slice none 0 0, .slice none 0 0, .slice none 0 0, .slice none 0 0, .slice none 0 0, .slice none 0 0, .slice none 0 0, .slice none 0 0, .slice none 0 0, .int .i64 0, .int .i64 0, .slice none 0 0, .slice none 0 0, .slice none 0 0, .slice none 0 0, .slice none 0 0, .slice none 0 0] [.int .i64 x4] rfl) (by simp) ?_
  intro w' hb hg
  replace HZ := (hg.block _ (lt_of_blk HZ) (fun q => by injection q with q; omega)).trans HZ
  replace I4 := I4.store hb hg
  clear hb hg
  refine ⟨trivial, ?_⟩
  refine sq_done ?_
  go_upto_region 4 with fail
  refine wp_region_seq0 (by rfl) ?_
  simp only [List.map]
  refine sq_pure (.pointer (some ⟨w.heap.size + 1, 0, none⟩)) (by go_simp) trivial ?_
  simp only [Act.put, List.setIfInBounds_toArray, List.set_cons_zero, List.set_cons_succ]
  refine sq_call 88 #[.pointer (some ⟨w.heap.size + 1, 0, none⟩)] (by go_simp) ?_
  refine Calls.mono (rd88 n (w.heap.size + 1) k4 s e4 _ I4.rdr I4.le hs D4) ?_
  rintro e w5 ⟨vs5, x5, k5, e5, rfl, hl5, ho5, hR5, h5, hg, hs5⟩
  obtain ⟨u5_0, u5_1, u5_2, u5_3, u5_4, u5_5, u5_6, u5_7, u5_8, u5_9, u5_10, u5_11, rfl⟩ := len_12 hl5
  replace HZ := (hg.block _ (lt_of_blk HZ) (fun q => by injection q with q; omega)).trans HZ
  have F5 := Stb.since (stb_pc n) hR5 I4.aw
  clear hR5
  have I5 := I4.call h5 hs5.1 hg
  clear I4 h5 hg
  have D5 := deep_next D4 hs5
  clear D4
  refine ⟨_, rfl, trivial, ?_⟩
  simp only [Act.put, List.setIfInBounds_toArray, List.set_cons_zero, List.set_cons_succ]
  refine sq_pure (.pointer (some ⟨w.heap.size + 1, 0, none⟩)) (by go_simp) trivial ?_
  simp only [Act.put, List.setIfInBounds_toArray, List.set_cons_zero, List.set_cons_succ]
  refine sq_call 88 #[.pointer (some ⟨w.heap.size + 1, 0, none⟩)] (by go_simp) ?_
  refine Calls.mono (rd88 n (w.heap.size + 1) k5 s e5 _ I5.rdr I5.le hs D5) ?_
  rintro e w6 ⟨vs6, x6, k6, e6, rfl, hl6, ho6, hR6, h6, hg, hs6⟩
  obtain ⟨u6_0, u6_1, u6_2, u6_3, u6_4, u6_5, u6_6, u6_7, u6_8, u6_9, u6_10, u6_11, rfl⟩ := len_12 hl6
  replace HZ := (hg.block _ (lt_of_blk HZ) (fun q => by injection q with q; omega)).trans HZ
  replace F5 := Stb.grow (stb_pc n) hg (I5.ra) F5
  have F6 := Stb.since (stb_pc n) hR6 I5.aw
  clear hR6
  have I6 := I5.call h6 hs6.1 hg
  clear I5 h6 hg
  have D6 := deep_next D5 hs6
  clear D5
  refine ⟨_, rfl, trivial, ?_⟩
  simp only [Act.put, List.setIfInBounds_toArray, List.set_cons_zero, List.set_cons_succ]
  refine sq_pure (.pointer (some ⟨(w.heap.size + 2), 4, none⟩)) (by go_simp) trivial ?_
  simp only [Act.put, List.setIfInBounds_toArray, List.set_cons_zero, List.set_cons_succ]
  refine sq_store 75 _ _ rfl rfl ((w.heap.size + 2)) 4 77 _ #[.int .i64 x1, .int .i64 x2, .int .i64 x3, .int .i64 x4, u5_0, u5_1, u5_2, u5_3, u5_4, u5_5, u5_6, u5_7, u5_8, u5_9, u5_10, u5_11, .slice none 0 0, .slice none 0 0, .slice none 0 0, .slice none 0 0, .int .i64 0, .int .i64 0, .slice none 0 0, .slice none 0 0, .slice none 0 0, .slice none 0 0, .slice none 0 0, .slice none 0 0] [u5_0, u5_1, u5_2, u5_3, u5_4, u5_5, u5_6, u5_7, u5_8, u5_9, u5_10, u5_11] rfl rfl I6.blk sz75 (by first | assumption | simp [Value.oneCell']) (putAll_mid [.int .i64 x1, .int .i64 x2, .int .i64 x3, .int .i64 x4] [.slice none 0 0, .slice none 0 0, .slice none 0 0, .slice none 0 0, .int .i64 0, .int .i64 0, .slice none 0 0, .slice none 0 0, .slice none 0 0, .slice none 0 0, .slice none 0 0, .slice none 0 0] [.slice none 0 0, .slice none 0 0, .slice none 0 0, .slice none 0 0, .int .i64 0, .int .i64 0, .slice none 0 0, .slice none 0 0, .slice none 0 0, .slice none 0 0, .slice none 0 0, .slice none 0 0] [u5_0, u5_1, u5_2, u5_3, u5_4, u5_5, u5_6, u5_7, u5_8, u5_9, u5_10, u5_11] rfl) (by simp) ?_
  intro w' hb hg
  replace HZ := (hg.block _ (lt_of_blk HZ) (fun q => by injection q with q; omega)).trans HZ
  replace F5 := Stb.grow (stb_pc n) hg (I6.ga) F5
  replace F6 := Stb.grow (stb_pc n) hg (I6.ga) F6
  replace I6 := I6.store hb hg
  clear hb hg
  refine ⟨trivial, ?_⟩
  refine sq_pure (.pointer (some ⟨(w.heap.size + 2), 16, none⟩)) (by go_simp) trivial ?_
  simp only [Act.put, List.setIfInBounds_toArray, List.set_cons_zero, List.set_cons_succ]
  refine sq_store 75 _ _ rfl rfl ((w.heap.size + 2)) 16 77 _ #[.int .i64 x1, .int .i64 x2, .int .i64 x3, .int .i64 x4, u5_0, u5_1, u5_2, u5_3, u5_4, u5_5, u5_6, u5_7, u5_8, u5_9, u5_10, u5_11, u6_0, u6_1, u6_2, u6_3, u6_4, u6_5, u6_6, u6_7, u6_8, u6_9, u6_10, u6_11] [u6_0, u6_1, u6_2, u6_3, u6_4, u6_5, u6_6, u6_7, u6_8, u6_9, u6_10, u6_11] rfl rfl I6.blk sz75 (by first | assumption | simp [Value.oneCell']) (putAll_mid [.int .i64 x1, .int .i64 x2, .int .i64 x3, .int .i64 x4, u5_0, u5_1, u5_2, u5_3, u5_4, u5_5, u5_6, u5_7, u5_8, u5_9, u5_10, u5_11] [.slice none 0 0, .slice none 0 0, .slice none 0 0, .slice none 0 0, .int .i64 0, .int .i64 0, .slice none 0 0, .slice none 0 0, .slice none 0 0, .slice none 0 0, .slice none 0 0, .slice none 0 0] [] [u6_0, u6_1, u6_2, u6_3, u6_4, u6_5, u6_6, u6_7, u6_8, u6_9, u6_10, u6_11] rfl) (by simp) ?_
  intro w' hb hg
  replace HZ := (hg.block _ (lt_of_blk HZ) (fun q => by injection q with q; omega)).trans HZ
  replace F5 := Stb.grow (stb_pc n) hg (I6.ga) F5
  replace F6 := Stb.grow (stb_pc n) hg (I6.ga) F6
  replace I6 := I6.store hb hg
  clear hb hg
  refine ⟨trivial, ?_⟩
  refine sq_done ?_
  have FR : spP n _ (Since (w.heap.size + 3) _) [.int .i64 x1, .int .i64 x2, .int .i64 x3, .int .i64 x4, u5_0, u5_1, u5_2, u5_3, u5_4, u5_5, u5_6, u5_7, u5_8, u5_9, u5_10, u5_11, u6_0, u6_1, u6_2, u6_3, u6_4, u6_5, u6_6, u6_7, u6_8, u6_9, u6_10, u6_11] (x1, x2, x3, x4, x5, x6) := ⟨[u5_0, u5_1, u5_2, u5_3, u5_4, u5_5, u5_6, u5_7, u5_8, u5_9, u5_10, u5_11], [u6_0, u6_1, u6_2, u6_3, u6_4, u6_5, u6_6, u6_7, u6_8, u6_9, u6_10, u6_11], rfl, rfl, ⟨hx1, hx2, hx3, hx4⟩, F5, F6⟩
  clear F5 F6
  have hone := (one_sp n) _ _ _ _ FR
  have hsA : Res (spR n) s k0 e0 (x1, x2, x3, x4, x5, x6) k6 e6 := (hs1.seq (hs2.seq (hs3.seq (hs4.seq (hs5.seq hs6)))))
  rw [hk0, he0] at hsA
  obtain ⟨hc1, hc2⟩ := dec_code hsA
  clear hs1 hs2 hs3 hs4 hs5 hs6 hsA
  go_upto_region 5 with fail
  refine wp_region_seq0 (by rfl) ?_
  simp only [List.map]
  refine sq_pure (.pointer (some ⟨w.heap.size + 1, 0, none⟩)) (by go_simp) trivial ?_
  simp only [Act.put, List.setIfInBounds_toArray, List.set_cons_zero, List.set_cons_succ]
  refine sq_call 66 #[.pointer (some ⟨w.heap.size + 1, 0, none⟩)] (by go_simp) ?_
  refine Calls.mono (end66 (w.heap.size + 1) k6 s e6 _ I6.rdr) ?_
  rintro e w' ⟨rfl, hg⟩
  rw [hc1]
  clear hc1
  replace HZ := (hg.block _ (lt_of_blk HZ) (fun q => by injection q with q; omega)).trans HZ
  replace FR := Stb.grow (stb_sp n) hg (by omega) FR
  have hb := (hg.block _ (lt_of_blk I6.blk) (fun q => by injection q with q; omega)).trans I6.blk
  have HG := Lib.hid (grown_trans I6.grown hg)
  clear I6 hg hk0 he0
  obtain ⟨E, hE⟩ : ∃ q, q = decErr (spR n) (bytesN s) := ⟨_, rfl⟩
  rw [← hE] at hc2 ⊢
  refine ⟨_, rfl, trivial, ?_⟩
  simp only [Act.put, List.setIfInBounds_toArray, List.set_cons_zero, List.set_cons_succ]
  refine sq_pure (.int .i64 E) (by go_simp) trivial ?_
  simp only [Act.put, List.setIfInBounds_toArray, List.set_cons_zero, List.set_cons_succ]
  refine sq_done ?_
  have hc3 := Lib.hid hc2
  have HE := Lib.hid hE
  clear hc2 hE
  rcases Int.decEq E 0 with he | he
  · have d0 : (E != 0) = true := by simpa using he
    clear FR hb
    go_upto_region 7 with fail
    refine wp_region_seq0 (by rfl) ?_
    simp only [List.map]
    refine sq_pure (.agg #[.int .i64 0, .int .i64 0, .int .i64 0, .int .i64 0, .slice none 0 0, .slice none 0 0, .slice none 0 0, .slice none 0 0, .int .i64 0, .int .i64 0, .slice none 0 0, .slice none 0 0, .slice none 0 0, .slice none 0 0, .slice none 0 0, .slice none 0 0, .slice none 0 0, .slice none 0 0, .slice none 0 0, .slice none 0 0, .int .i64 0, .int .i64 0, .slice none 0 0, .slice none 0 0, .slice none 0 0, .slice none 0 0, .slice none 0 0, .slice none 0 0]) (by go_simp) trivial ?_
    simp only [Act.put, List.setIfInBounds_toArray, List.set_cons_zero, List.set_cons_succ]
    refine sq_pure (.int .i64 E) (by go_simp) trivial ?_
    simp only [Act.put, List.setIfInBounds_toArray, List.set_cons_zero, List.set_cons_succ]
    refine sq_store_row 77 _ _ rfl rfl (w.heap.size) 77 _ [.int .i64 0, .int .i64 0, .int .i64 0, .int .i64 0, .slice none 0 0, .slice none 0 0, .slice none 0 0, .slice none 0 0, .int .i64 0, .int .i64 0, .slice none 0 0, .slice none 0 0, .slice none 0 0, .slice none 0 0, .slice none 0 0, .slice none 0 0, .slice none 0 0, .slice none 0 0, .slice none 0 0, .slice none 0 0, .int .i64 0, .int .i64 0, .slice none 0 0, .slice none 0 0, .slice none 0 0, .slice none 0 0, .slice none 0 0, .slice none 0 0] rfl rfl HZ size77 ((one_sp n) w (Since 0 w) _ _ (sp0_rep n _ _)) rfl ?_
    intro w2 hb2 hg2
    refine ⟨trivial, ?_⟩
    refine sq_pure (.int .i64 E) (by go_simp) trivial ?_
    simp only [Act.put, List.setIfInBounds_toArray, List.set_cons_zero, List.set_cons_succ]
    refine sq_done ?_
    have HB := Lib.hid (show Below w.heap.size w w2 from ⟨hg2.os.trans HG.out.os, hg2.tape.trans HG.out.tape, hg2.output.trans HG.out.output, Nat.le_trans HG.out.size hg2.size, fun i hi => (hg2.block i (Nat.lt_of_lt_of_le hi HG.out.size) (fun q => by injection q with q; omega)).trans (HG.out.block i hi (fun q => by injection q with q; omega))⟩)
    clear hg2 HG HZ
    go_wp2_with fail
    refine bodyPost_ret (v := .tuple #[.agg #[.int .i64 0, .int .i64 0, .int .i64 0, .int .i64 0, .slice none 0 0, .slice none 0 0, .slice none 0 0, .slice none 0 0, .int .i64 0, .int .i64 0, .slice none 0 0, .slice none 0 0, .slice none 0 0, .slice none 0 0, .slice none 0 0, .slice none 0 0, .slice none 0 0, .slice none 0 0, .slice none 0 0, .slice none 0 0, .int .i64 0, .int .i64 0, .slice none 0 0, .slice none 0 0, .slice none 0 0, .slice none 0 0, .slice none 0 0, .slice none 0 0], .int .i64 E]) (results_row_tmp rfl _ _ (w.heap.size) 77 #[.int .i64 0, .int .i64 0, .int .i64 0, .int .i64 0, .slice none 0 0, .slice none 0 0, .slice none 0 0, .slice none 0 0, .int .i64 0, .int .i64 0, .slice none 0 0, .slice none 0 0, .slice none 0 0, .slice none 0 0, .slice none 0 0, .slice none 0 0, .slice none 0 0, .slice none 0 0, .slice none 0 0, .slice none 0 0, .int .i64 0, .int .i64 0, .slice none 0 0, .slice none 0 0, .slice none 0 0, .slice none 0 0, .slice none 0 0, .slice none 0 0] (0, 0) _ _ rfl rfl hb2 Tryz.underlying77 rfl size77) rfl ?_
    refine ⟨HB.out, [.int .i64 0, .int .i64 0, .int .i64 0, .int .i64 0, .slice none 0 0, .slice none 0 0, .slice none 0 0, .slice none 0 0, .int .i64 0, .int .i64 0, .slice none 0 0, .slice none 0 0, .slice none 0 0, .slice none 0 0, .slice none 0 0, .slice none 0 0, .slice none 0 0, .slice none 0 0, .slice none 0 0, .slice none 0 0, .int .i64 0, .int .i64 0, .slice none 0 0, .slice none 0 0, .slice none 0 0, .slice none 0 0, .slice none 0 0, .slice none 0 0], sp0 n, by rw [← HE.out], (sp0_rep n _ _), (one_sp n) w2 (Since 0 w2) _ _ (sp0_rep n _ _), fun _ => rfl, fun q => absurd (HE.out.trans q) he⟩
  · subst he
    replace hc3 := Lib.hid (hc3.out rfl)
    go_upto_region 8 with fail
    refine wp_region_seq0 (by rfl) ?_
    simp only [List.map]
    refine sq_load_row 77 _ rfl (w.heap.size + 2) 77 #[.int .i64 x1, .int .i64 x2, .int .i64 x3, .int .i64 x4, u5_0, u5_1, u5_2, u5_3, u5_4, u5_5, u5_6, u5_7, u5_8, u5_9, u5_10, u5_11, u6_0, u6_1, u6_2, u6_3, u6_4, u6_5, u6_6, u6_7, u6_8, u6_9, u6_10, u6_11] _ rfl hb Tryz.underlying77 rfl size77 trivial ?_
    simp only [Act.put, List.setIfInBounds_toArray, List.set_cons_zero, List.set_cons_succ]
    refine sq_store_row 77 _ _ rfl rfl (w.heap.size) 77 _ [.int .i64 x1, .int .i64 x2, .int .i64 x3, .int .i64 x4, u5_0, u5_1, u5_2, u5_3, u5_4, u5_5, u5_6, u5_7, u5_8, u5_9, u5_10, u5_11, u6_0, u6_1, u6_2, u6_3, u6_4, u6_5, u6_6, u6_7, u6_8, u6_9, u6_10, u6_11] rfl rfl HZ size77 hone rfl ?_
    intro w2 hb2 hg2
    refine ⟨trivial, ?_⟩
    refine sq_pure (.int .i64 0) (by go_simp) trivial ?_
    simp only [Act.put, List.setIfInBounds_toArray, List.set_cons_zero, List.set_cons_succ]
    refine sq_done ?_
    have HB := Lib.hid (show Below w.heap.size w w2 from ⟨hg2.os.trans HG.out.os, hg2.tape.trans HG.out.tape, hg2.output.trans HG.out.output, Nat.le_trans HG.out.size hg2.size, fun i hi => (hg2.block i (Nat.lt_of_lt_of_le hi HG.out.size) (fun q => by injection q with q; omega)).trans (HG.out.block i hi (fun q => by injection q with q; omega))⟩)
    have hR2 := Lib.hid (Stb.since (a0 := w.heap.size) (stb_sp n) (Stb.grow (stb_sp n) hg2 (by omega) FR) (by omega))
    clear hg2 HG HZ FR hb
    go_wp2_with fail
    refine bodyPost_ret (v := .tuple #[.agg #[.int .i64 x1, .int .i64 x2, .int .i64 x3, .int .i64 x4, u5_0, u5_1, u5_2, u5_3, u5_4, u5_5, u5_6, u5_7, u5_8, u5_9, u5_10, u5_11, u6_0, u6_1, u6_2, u6_3, u6_4, u6_5, u6_6, u6_7, u6_8, u6_9, u6_10, u6_11], .int .i64 0]) (results_row_tmp rfl _ _ (w.heap.size) 77 #[.int .i64 x1, .int .i64 x2, .int .i64 x3, .int .i64 x4, u5_0, u5_1, u5_2, u5_3, u5_4, u5_5, u5_6, u5_7, u5_8, u5_9, u5_10, u5_11, u6_0, u6_1, u6_2, u6_3, u6_4, u6_5, u6_6, u6_7, u6_8, u6_9, u6_10, u6_11] (0, 0) _ _ rfl rfl hb2 Tryz.underlying77 rfl size77) rfl ?_
    refine ⟨HB.out, [.int .i64 x1, .int .i64 x2, .int .i64 x3, .int .i64 x4, u5_0, u5_1, u5_2, u5_3, u5_4, u5_5, u5_6, u5_7, u5_8, u5_9, u5_10, u5_11, u6_0, u6_1, u6_2, u6_3, u6_4, u6_5, u6_6, u6_7, u6_8, u6_9, u6_10, u6_11], (x1, x2, x3, x4, x5, x6), by rw [← HE.out], hR2.out, hone, fun q => absurd HE.out.symm q, fun _ => hc3.out⟩

set_option maxRecDepth 100000 in
set_option maxHeartbeats 4000000 in
theorem Dec31 (n : Nat) (s : ByteArray) (w : World) (hs : s.size ≤ 549755813888) (hn : s.size < n) :
    Calls Tryz.prog 31 #[.string s] w (DecC (edP n) (edR n) (ed0 n) s w) := by
  have HZ : (((w.alloc (.cells #[.int .i64 0, .int .i64 0, .int .i64 0, .int .i64 0, .int .i64 0, .int .i64 0, .int .i64 0, .int .i64 0, .int .i64 0, .int .i64 0, .bool false, .slice none 0 0, .slice none 0 0, .slice none 0 0, .slice none 0 0, .slice none 0 0, .slice none 0 0, .slice none 0 0] 68)).alloc (.cells #[.string s, .int .i64 0, .int .i64 0] 99)).alloc (.cells #[.int .i64 0, .int .i64 0, .int .i64 0, .int .i64 0, .int .i64 0, .int .i64 0, .int .i64 0, .int .i64 0, .int .i64 0, .int .i64 0, .bool false, .slice none 0 0, .slice none 0 0, .slice none 0 0, .slice none 0 0, .slice none 0 0, .slice none 0 0, .slice none 0 0] 68)).heap[w.heap.size]? = some (.cells #[.int .i64 0, .int .i64 0, .int .i64 0, .int .i64 0, .int .i64 0, .int .i64 0, .int .i64 0, .int .i64 0, .int .i64 0, .int .i64 0, .bool false, .slice none 0 0, .slice none 0 0, .slice none 0 0, .slice none 0 0, .slice none 0 0, .slice none 0 0, .slice none 0 0] 68 (0, 0)) := (Below.heap_alloc _ _ _ (by simp; omega)).trans ((Below.heap_alloc _ _ _ (by simp)).trans (heap_alloc_new w _))
  obtain ⟨k0, e0, hk0, he0, I0⟩ : ∃ (k0 : Nat) (e0 : Int), k0 = 0 ∧ e0 = 0 ∧ InvN 68 99 (w.heap.size + 1) (w.heap.size + 2) s w (w.heap.size + 3) k0 e0 #[.int .i64 0, .int .i64 0, .int .i64 0, .int .i64 0, .int .i64 0, .int .i64 0, .int .i64 0, .int .i64 0, .int .i64 0, .int .i64 0, .bool false, .slice none 0 0, .slice none 0 0, .slice none 0 0, .slice none 0 0, .slice none 0 0, .slice none 0 0, .slice none 0 0] (((w.alloc (.cells #[.int .i64 0, .int .i64 0, .int .i64 0, .int .i64 0, .int .i64 0, .int .i64 0, .int .i64 0, .int .i64 0, .int .i64 0, .int .i64 0, .bool false, .slice none 0 0, .slice none 0 0, .slice none 0 0, .slice none 0 0, .slice none 0 0, .slice none 0 0, .slice none 0 0] 68)).alloc (.cells #[.string s, .int .i64 0, .int .i64 0] 99)).alloc (.cells #[.int .i64 0, .int .i64 0, .int .i64 0, .int .i64 0, .int .i64 0, .int .i64 0, .int .i64 0, .int .i64 0, .int .i64 0, .int .i64 0, .bool false, .slice none 0 0, .slice none 0 0, .slice none 0 0, .slice none 0 0, .slice none 0 0, .slice none 0 0, .slice none 0 0] 68)) := ⟨0, 0, rfl, rfl, ⟨(Below.heap_alloc _ _ _ (by simp)).trans (heap_alloc_new' _ _ (by simp)), Nat.zero_le _, heap_alloc_new' _ _ (by simp), grown_alloc (grown_alloc (grown_alloc (grown_refl w (some (w.heap.size + 1))) _) _) _, by omega, by omega, by omega, by omega, by simp⟩⟩
  have D0 : e0 = 0 → s.size - k0 < n := fun _ => by omega
  go_enter Tryz.func31, Tryz.ntmps31
  go_upto_region 3 with fail
  refine wp_region_seq0 (by rfl) ?_
  simp only [List.map]
  refine sq_pure (.pointer (some ⟨w.heap.size + 2, 0, none⟩)) (by go_simp) trivial ?_
  simp only [Act.put, List.setIfInBounds_toArray, List.set_cons_zero, List.set_cons_succ]
  refine sq_pure (.pointer (some ⟨w.heap.size + 2, 1, none⟩)) (by go_simp) trivial ?_
  simp only [Act.put, List.setIfInBounds_toArray, List.set_cons_zero, List.set_cons_succ]
  refine sq_pure (.pointer (some ⟨w.heap.size + 2, 2, none⟩)) (by go_simp) trivial ?_
  simp only [Act.put, List.setIfInBounds_toArray, List.set_cons_zero, List.set_cons_succ]
  refine sq_pure (.pointer (some ⟨w.heap.size + 2, 3, none⟩)) (by go_simp) trivial ?_
  simp only [Act.put, List.setIfInBounds_toArray, List.set_cons_zero, List.set_cons_succ]
  refine sq_pure (.pointer (some ⟨w.heap.size + 2, 4, none⟩)) (by go_simp) trivial ?_
  simp only [Act.put, List.setIfInBounds_toArray, List.set_cons_zero, List.set_cons_succ]
  refine sq_pure (.pointer (some ⟨w.heap.size + 2, 5, none⟩)) (by go_simp) trivial ?_
  simp only [Act.put, List.setIfInBounds_toArray, List.set_cons_zero, List.set_cons_succ]
  refine sq_pure (.pointer (some ⟨w.heap.size + 2, 6, none⟩)) (by go_simp) trivial ?_
  simp only [Act.put, List.setIfInBounds_toArray, List.set_cons_zero, List.set_cons_succ]
  refine sq_pure (.pointer (some ⟨w.heap.size + 2, 7, none⟩)) (by go_simp) trivial ?_
  simp only [Act.put, List.setIfInBounds_toArray, List.set_cons_zero, List.set_cons_succ]
  refine sq_pure (.pointer (some ⟨w.heap.size + 2, 8, none⟩)) (by go_simp) trivial ?_
  simp only [Act.put, List.setIfInBounds_toArray, List.set_cons_zero, List.set_cons_succ]
  refine sq_pure (.pointer (some ⟨w.heap.size + 2, 9, none⟩)) (by go_simp) trivial ?_
  simp only [Act.put, List.setIfInBounds_toArray, List.set_cons_zero, List.set_cons_succ]
  refine sq_value (.slice (some ⟨w.heap.size + 3, 0, none⟩) 10 10) ((((w.alloc (.cells #[.int .i64 0, .int .i64 0, .int .i64 0, .int .i64 0, .int .i64 0, .int .i64 0, .int .i64 0, .int .i64 0, .int .i64 0, .int .i64 0, .bool false, .slice none 0 0, .slice none 0 0, .slice none 0 0, .slice none 0 0, .slice none 0 0, .slice none 0 0, .slice none 0 0] 68)).alloc (.cells #[.string s, .int .i64 0, .int .i64 0] 99)).alloc (.cells #[.int .i64 0, .int .i64 0, .int .i64 0, .int .i64 0, .int .i64 0, .int .i64 0, .int .i64 0, .int .i64 0, .int .i64 0, .int .i64 0, .bool false, .slice none 0 0, .slice none 0 0, .slice none 0 0, .slice none 0 0, .slice none 0 0, .slice none 0 0, .slice none 0 0] 68)).alloc (.cells #[.pointer (some ⟨w.heap.size + 2, 0, none⟩), .pointer (some ⟨w.heap.size + 2, 1, none⟩), .pointer (some ⟨w.heap.size + 2, 2, none⟩), .pointer (some ⟨w.heap.size + 2, 3, none⟩), .pointer (some ⟨w.heap.size + 2, 4, none⟩), .pointer (some ⟨w.heap.size + 2, 5, none⟩), .pointer (some ⟨w.heap.size + 2, 6, none⟩), .pointer (some ⟨w.heap.size + 2, 7, none⟩), .pointer (some ⟨w.heap.size + 2, 8, none⟩), .pointer (some ⟨w.heap.size + 2, 9, none⟩)] 160)) (by go_simp) trivial ?_
  simp only [Act.put, List.setIfInBounds_toArray, List.set_cons_zero, List.set_cons_succ]
  refine sq_pure (.int .i64 10) (by go_simp) trivial ?_
  simp only [Act.put, List.setIfInBounds_toArray, List.set_cons_zero, List.set_cons_succ]
  refine sq_pure (.int .i64 0) (by go_simp) trivial ?_
  simp only [Act.put, List.setIfInBounds_toArray, List.set_cons_zero, List.set_cons_succ]
  refine sq_done ?_
  have hP : PtrS (w.heap.size + 3) (w.heap.size + 2) ((((w.alloc (.cells #[.int .i64 0, .int .i64 0, .int .i64 0, .int .i64 0, .int .i64 0, .int .i64 0, .int .i64 0, .int .i64 0, .int .i64 0, .int .i64 0, .bool false, .slice none 0 0, .slice none 0 0, .slice none 0 0, .slice none 0 0, .slice none 0 0, .slice none 0 0, .slice none 0 0] 68)).alloc (.cells #[.string s, .int .i64 0, .int .i64 0] 99)).alloc (.cells #[.int .i64 0, .int .i64 0, .int .i64 0, .int .i64 0, .int .i64 0, .int .i64 0, .int .i64 0, .int .i64 0, .int .i64 0, .int .i64 0, .bool false, .slice none 0 0, .slice none 0 0, .slice none 0 0, .slice none 0 0, .slice none 0 0, .slice none 0 0, .slice none 0 0] 68)).alloc (.cells #[.pointer (some ⟨w.heap.size + 2, 0, none⟩), .pointer (some ⟨w.heap.size + 2, 1, none⟩), .pointer (some ⟨w.heap.size + 2, 2, none⟩), .pointer (some ⟨w.heap.size + 2, 3, none⟩), .pointer (some ⟨w.heap.size + 2, 4, none⟩), .pointer (some ⟨w.heap.size + 2, 5, none⟩), .pointer (some ⟨w.heap.size + 2, 6, none⟩), .pointer (some ⟨w.heap.size + 2, 7, none⟩), .pointer (some ⟨w.heap.size + 2, 8, none⟩), .pointer (some ⟨w.heap.size + 2, 9, none⟩)] 160)) := ⟨by simp, fun i hi => by
    rw [cell_of_row _ (w.heap.size + 3) i _ 160 (0, 0) (heap_alloc_new' _ _ (by simp))]
    match i, hi with
    | 0, _ | 1, _ | 2, _ | 3, _ | 4, _ | 5, _ | 6, _ | 7, _ | 8, _ | 9, _ => rfl⟩
  have I1 : InvN 68 99 (w.heap.size + 1) (w.heap.size + 2) s w (w.heap.size + 3) k0 e0 (curX [] 10) ((((w.alloc (.cells #[.int .i64 0, .int .i64 0, .int .i64 0, .int .i64 0, .int .i64 0, .int .i64 0, .int .i64 0, .int .i64 0, .int .i64 0, .int .i64 0, .bool false, .slice none 0 0, .slice none 0 0, .slice none 0 0, .slice none 0 0, .slice none 0 0, .slice none 0 0, .slice none 0 0] 68)).alloc (.cells #[.string s, .int .i64 0, .int .i64 0] 99)).alloc (.cells #[.int .i64 0, .int .i64 0, .int .i64 0, .int .i64 0, .int .i64 0, .int .i64 0, .int .i64 0, .int .i64 0, .int .i64 0, .int .i64 0, .bool false, .slice none 0 0, .slice none 0 0, .slice none 0 0, .slice none 0 0, .slice none 0 0, .slice none 0 0, .slice none 0 0] 68)).alloc (.cells #[.pointer (some ⟨w.heap.size + 2, 0, none⟩), .pointer (some ⟨w.heap.size + 2, 1, none⟩), .pointer (some ⟨w.heap.size + 2, 2, none⟩), .pointer (some ⟨w.heap.size + 2, 3, none⟩), .pointer (some ⟨w.heap.size + 2, 4, none⟩), .pointer (some ⟨w.heap.size + 2, 5, none⟩), .pointer (some ⟨w.heap.size + 2, 6, none⟩), .pointer (some ⟨w.heap.size + 2, 7, none⟩), .pointer (some ⟨w.heap.size + 2, 8, none⟩), .pointer (some ⟨w.heap.size + 2, 9, none⟩)] 160)) := I0.alloc _
  have HZ1 := (Below.heap_alloc (((w.alloc (.cells #[.int .i64 0, .int .i64 0, .int .i64 0, .int .i64 0, .int .i64 0, .int .i64 0, .int .i64 0, .int .i64 0, .int .i64 0, .int .i64 0, .bool false, .slice none 0 0, .slice none 0 0, .slice none 0 0, .slice none 0 0, .slice none 0 0, .slice none 0 0, .slice none 0 0] 68)).alloc (.cells #[.string s, .int .i64 0, .int .i64 0] 99)).alloc (.cells #[.int .i64 0, .int .i64 0, .int .i64 0, .int .i64 0, .int .i64 0, .int .i64 0, .int .i64 0, .int .i64 0, .int .i64 0, .int .i64 0, .bool false, .slice none 0 0, .slice none 0 0, .slice none 0 0, .slice none 0 0, .slice none 0 0, .slice none 0 0, .slice none 0 0] 68)) (.cells #[.pointer (some ⟨w.heap.size + 2, 0, none⟩), .pointer (some ⟨w.heap.size + 2, 1, none⟩), .pointer (some ⟨w.heap.size + 2, 2, none⟩), .pointer (some ⟨w.heap.size + 2, 3, none⟩), .pointer (some ⟨w.heap.size + 2, 4, none⟩), .pointer (some ⟨w.heap.size + 2, 5, none⟩), .pointer (some ⟨w.heap.size + 2, 6, none⟩), .pointer (some ⟨w.heap.size + 2, 7, none⟩), .pointer (some ⟨w.heap.size + 2, 8, none⟩), .pointer (some ⟨w.heap.size + 2, 9, none⟩)] 160) _ (lt_of_blk HZ)).trans HZ
  obtain ⟨W, hW⟩ : ∃ W, W = (((w.alloc (.cells #[.int .i64 0, .int .i64 0, .int .i64 0, .int .i64 0, .int .i64 0, .int .i64 0, .int .i64 0, .int .i64 0, .int .i64 0, .int .i64 0, .bool false, .slice none 0 0, .slice none 0 0, .slice none 0 0, .slice none 0 0, .slice none 0 0, .slice none 0 0, .slice none 0 0] 68)).alloc (.cells #[.string s, .int .i64 0, .int .i64 0] 99)).alloc (.cells #[.int .i64 0, .int .i64 0, .int .i64 0, .int .i64 0, .int .i64 0, .int .i64 0, .int .i64 0, .int .i64 0, .int .i64 0, .int .i64 0, .bool false, .slice none 0 0, .slice none 0 0, .slice none 0 0, .slice none 0 0, .slice none 0 0, .slice none 0 0, .slice none 0 0] 68)).alloc (.cells #[.pointer (some ⟨w.heap.size + 2, 0, none⟩), .pointer (some ⟨w.heap.size + 2, 1, none⟩), .pointer (some ⟨w.heap.size + 2, 2, none⟩), .pointer (some ⟨w.heap.size + 2, 3, none⟩), .pointer (some ⟨w.heap.size + 2, 4, none⟩), .pointer (some ⟨w.heap.size + 2, 5, none⟩), .pointer (some ⟨w.heap.size + 2, 6, none⟩), .pointer (some ⟨w.heap.size + 2, 7, none⟩), .pointer (some ⟨w.heap.size + 2, 8, none⟩), .pointer (some ⟨w.heap.size + 2, 9, none⟩)] 160) := ⟨_, rfl⟩
  rw [← hW] at hP I1 HZ1 ⊢
  clear hW I0 HZ
  have HI0 : Hid (InvN 68 99 (w.heap.size + 1) (w.heap.size + 2) s w (w.heap.size + 3) k0 e0 (curX ([] : List Int) 10) W ∧ PtrS (w.heap.size + 3) (w.heap.size + 2) W ∧ W.heap[w.heap.size]? = some (.cells #[.int .i64 0, .int .i64 0, .int .i64 0, .int .i64 0, .int .i64 0, .int .i64 0, .int .i64 0, .int .i64 0, .int .i64 0, .int .i64 0, .bool false, .slice none 0 0, .slice none 0 0, .slice none 0 0, .slice none 0 0, .slice none 0 0, .slice none 0 0, .slice none 0 0] 68 (0, 0)) ∧ Res (manyR rdN 0) s k0 e0 ([] : List Int) k0 e0 ∧ ∀ y ∈ ([] : List Int), I64 y) := Lib.hid ⟨I1, hP, HZ1, Res.many0 _ _ _ _ (by omega), by simp⟩
  clear hP I1 HZ1
  have hk00 := Lib.hid hk0
  have he00 := Lib.hid he0
  clear hk0 he0
  go_wp2_with fail
  go_loopw [24] (fun iv wr => ∃ (i j k : Nat) (e : Int) (xs : List Int), iv = .int .i64 (i : Int) ∧ i + j = 10 ∧ xs.length = i ∧ Hid (InvN 68 99 (w.heap.size + 1) (w.heap.size + 2) s w (w.heap.size + 3) k e (curX xs j) wr ∧ PtrS (w.heap.size + 3) (w.heap.size + 2) wr ∧ wr.heap[w.heap.size]? = some (.cells #[.int .i64 0, .int .i64 0, .int .i64 0, .int .i64 0, .int .i64 0, .int .i64 0, .int .i64 0, .int .i64 0, .int .i64 0, .int .i64 0, .bool false, .slice none 0 0, .slice none 0 0, .slice none 0 0, .slice none 0 0, .slice none 0 0, .slice none 0 0, .slice none 0 0] 68 (0, 0)) ∧ Res (manyR rdN i) s k0 e0 xs k e ∧ ∀ y ∈ xs, I64 y)) (fun iv _ => 10 - (intOf iv).toNat)
  case atStart => exact ⟨0, 10, k0, e0, [], rfl, rfl, rfl, HI0⟩
  case round =>
    obtain ⟨i, j, k, e, xs, rfl, hij, hxl, HI⟩ := hrel
    clear HI0
    by_cases hlt : i < 10
    · have hlt' : (i : Int) < (10 : Int) := by omega
      have hlt2 : decide ((i : Int) < (10 : Int)) = true := by simpa using hlt'
      have hi0 : (0 : Int) ≤ (i : Int) := by omega
      obtain ⟨jj, rfl⟩ : ∃ jj, j = jj + 1 := ⟨j - 1, by omega⟩
      have wi : IntKind.i64.wrap ((i : Int) + 1) = ((i + 1 : Nat) : Int) := by rw [IntKind.wrap_i64] <;> omega
      have hI := HI.out.1
      have hP := HI.out.2.1
      have hZ := HI.out.2.2.1
      have hp0 := hP.2 i hlt
      go_upto_region 6 with fail
      refine wp_region_seq0 (by rfl) ?_
      simp only [List.map]
      refine sq_pure (.pointer (some ⟨w.heap.size + 2, i, none⟩)) (by go_simp) trivial ?_
      simp only [Act.put, List.setIfInBounds_toArray, List.set_cons_zero, List.set_cons_succ]
      refine sq_pure (.pointer (some ⟨w.heap.size + 1, 0, none⟩)) (by go_simp) trivial ?_
      simp only [Act.put, List.setIfInBounds_toArray, List.set_cons_zero, List.set_cons_succ]
      refine sq_call 43 #[.pointer (some ⟨w.heap.size + 1, 0, none⟩)] (by go_simp) ?_
      refine Calls.mono (number43_any (w.heap.size + 1) k s e _ hI.rdr hI.le (by omega)) ?_
      rintro ex w5 ⟨x, k5, e5, rfl, hx5, hr5, hg, hs5⟩
      replace hI := hI.call hr5 hs5.1 hg
      replace hP := PtrS.grow hP hg (by omega)
      replace hZ := (hg.block _ (lt_of_blk hZ) (fun q => by injection q with q; omega)).trans hZ
      clear hr5 hg hp0
      refine ⟨_, rfl, trivial, ?_⟩
      simp only [Act.put, List.setIfInBounds_toArray, List.set_cons_zero, List.set_cons_succ]
      refine sq_pure (.pointer (some ⟨w.heap.size + 2, i, none⟩)) (by go_simp) trivial ?_
      simp only [Act.put, List.setIfInBounds_toArray, List.set_cons_zero, List.set_cons_succ]
      refine sq_store 3 _ _ rfl rfl (w.heap.size + 2) i 68 _ (curX (xs ++ [x]) jj) [.int .i64 x] rfl rfl hI.blk sz3 (one1 rfl) (by rw [← hxl]; exact curX_put xs jj x) (by rw [curX_size]; simp; omega) ?_
      intro w6 hb hg
      replace hI := hI.store hb hg
      replace hP := hP.grow hg (by omega)
      replace hZ := (hg.block _ (lt_of_blk hZ) (fun q => by injection q with q; omega)).trans hZ
      refine ⟨trivial, sq_done ?_⟩
      have HI2 : Hid (InvN 68 99 (w.heap.size + 1) (w.heap.size + 2) s w (w.heap.size + 3) k5 e5 (curX (xs ++ [x]) jj) w6 ∧ PtrS (w.heap.size + 3) (w.heap.size + 2) w6 ∧ w6.heap[w.heap.size]? = some (.cells #[.int .i64 0, .int .i64 0, .int .i64 0, .int .i64 0, .int .i64 0, .int .i64 0, .int .i64 0, .int .i64 0, .int .i64 0, .int .i64 0, .bool false, .slice none 0 0, .slice none 0 0, .slice none 0 0, .slice none 0 0, .slice none 0 0, .slice none 0 0, .slice none 0 0] 68 (0, 0)) ∧ Res (manyR rdN (i + 1)) s k0 e0 (xs ++ [x]) k5 e5 ∧ ∀ y ∈ (xs ++ [x]), I64 y) := Lib.hid ⟨hI, hP, hZ, HI.out.2.2.2.1.snoc_any hs5, by
        intro y hy
        rcases List.mem_append.1 hy with q | q
        · exact HI.out.2.2.2.2 y q
        · rw [List.mem_singleton.1 q]; exact hx5⟩
      clear hI hP hZ hb hg HI
      go_wp2_with fail
      go_roundw
      case rel => exact ⟨i + 1, jj, k5, e5, xs ++ [x], by go_num, by omega, by simp [hxl], HI2⟩
      case measure => simp [intOf]; omega
    · have hlt' : ¬ (i : Int) < (10 : Int) := by omega
      have hlt2 : decide ((i : Int) < (10 : Int)) = false := by simpa using hlt'
      obtain rfl : i = 10 := by omega
      obtain rfl : j = 0 := by omega
      obtain ⟨a0, a1, a2, a3, a4, a5, a6, a7, a8, a9, rfl⟩ := len_10 hxl
      have I1 : InvN 68 99 (w.heap.size + 1) (w.heap.size + 2) s w (w.heap.size + 3) k e #[.int .i64 a0, .int .i64 a1, .int .i64 a2, .int .i64 a3, .int .i64 a4, .int .i64 a5, .int .i64 a6, .int .i64 a7, .int .i64 a8, .int .i64 a9, .bool false, .slice none 0 0, .slice none 0 0, .slice none 0 0, .slice none 0 0, .slice none 0 0, .slice none 0 0, .slice none 0 0] wr := HI.out.1
      obtain ⟨k1, hk1⟩ : ∃ q, q = k := ⟨_, rfl⟩
      obtain ⟨e1, he1⟩ : ∃ q, q = e := ⟨_, rfl⟩
      rw [← hk1, ← he1] at I1 HI
      have HZ := HI.out.2.2.1
      have hs1 := HI.out.2.2.2.1
      have hxs := HI.out.2.2.2.2
      clear HI hk1 he1
      have D1 : e1 = 0 → s.size - k1 < n := deep_next D0 hs1
      go_upto_region 8 with fail
      refine wp_region_seq0 (by rfl) ?_
      simp only [List.map]
      refine sq_pure (.pointer (some ⟨w.heap.size + 1, 0, none⟩)) (by go_simp) trivial ?_
      simp only [Act.put, List.setIfInBounds_toArray, List.set_cons_zero, List.set_cons_succ]
      refine sq_call 80 #[.pointer (some ⟨w.heap.size + 1, 0, none⟩)] (by go_simp) ?_
      refine Calls.mono (flag80 (w.heap.size + 1) k1 s e1 _ I1.rdr I1.le (by omega)) ?_
      rintro e w2 ⟨x2, k2, e2, rfl, h2, hg, hs2⟩
      replace HZ := (hg.block _ (lt_of_blk HZ) (fun q => by injection q with q; omega)).trans HZ
      have I2 := I1.call h2 hs2.1 hg
      clear I1 h2 hg
      have D2 := deep_next D1 hs2
      clear D1
      refine ⟨_, rfl, trivial, ?_⟩
      simp only [Act.put, List.setIfInBounds_toArray, List.set_cons_zero, List.set_cons_succ]
      refine sq_pure (.pointer (some ⟨w.heap.size + 1, 0, none⟩)) (by go_simp) trivial ?_
      simp only [Act.put, List.setIfInBounds_toArray, List.set_cons_zero, List.set_cons_succ]
      refine sq_call 65 #[.pointer (some ⟨w.heap.size + 1, 0, none⟩)] (by go_simp) ?_
      refine Calls.mono (rd_items s hs n (w.heap.size + 1) k2 e2 _ I2.rdr I2.le D2) ?_
      rintro e w3 ⟨v3, x3, k3, e3, rfl, hR3, h3, hg, hs3⟩
      obtain ⟨A3, c3, hv3, _, _⟩ := hR3.shape
      subst hv3
      replace HZ := (hg.block _ (lt_of_blk HZ) (fun q => by injection q with q; omega)).trans HZ
      have F3 := Slv.since (stb_it n) hR3 I2.aw
      clear hR3
      have I3 := I2.call h3 hs3.1 hg
      clear I2 h3 hg
      have D3 := deep_next D2 hs3
      clear D2
      refine ⟨_, rfl, trivial, ?_⟩
      simp only [Act.put, List.setIfInBounds_toArray, List.set_cons_zero, List.set_cons_succ]
      refine sq_pure (.pointer (some ⟨w.heap.size + 1, 0, none⟩)) (by go_simp) trivial ?_
      simp only [Act.put, List.setIfInBounds_toArray, List.set_cons_zero, List.set_cons_succ]
      refine sq_call 81 #[.pointer (some ⟨w.heap.size + 1, 0, none⟩)] (by go_simp) ?_
      refine Calls.mono (rd81 (itP n) (itR n) (stb_it n) n s hs (rd_items s hs n) (w.heap.size + 1) k3 e3 _ I3.rdr I3.le D3) ?_
      rintro e w4 ⟨v4, x4, k4, e4, rfl, hR4, h4, hg, hs4⟩
      obtain ⟨A4, c4, hv4, _, _⟩ := hR4.shape
      subst hv4
      replace HZ := (hg.block _ (lt_of_blk HZ) (fun q => by injection q with q; omega)).trans HZ
      replace F3 := Slv.grow (stb_it n) F3 hg (I3.ra)
      have F4 := Slv.since (stb_rw (stb_it n)) hR4 I3.aw
      clear hR4
      have I4 := I3.call h4 hs4.1 hg
      clear I3 h4 hg
      have D4 := deep_next D3 hs4
      clear D3
      refine ⟨_, rfl, trivial, ?_⟩
      simp only [Act.put, List.setIfInBounds_toArray, List.set_cons_zero, List.set_cons_succ]
      refine sq_pure (.pointer (some ⟨w.heap.size + 1, 0, none⟩)) (by go_simp) trivial ?_
      simp only [Act.put, List.setIfInBounds_toArray, List.set_cons_zero, List.set_cons_succ]
      refine sq_call 82 #[.pointer (some ⟨w.heap.size + 1, 0, none⟩)] (by go_simp) ?_
      refine Calls.mono (rd82 (itP n) (itR n) (stb_it n) n s hs (rd_items s hs n) (w.heap.size + 1) k4 e4 _ I4.rdr I4.le D4) ?_
      rintro e w5 ⟨v5, x5, k5, e5, rfl, hR5, h5, hg, hs5⟩
      obtain ⟨A5, c5, hv5, _, _⟩ := hR5.shape
      subst hv5
      replace HZ := (hg.block _ (lt_of_blk HZ) (fun q => by injection q with q; omega)).trans HZ
      replace F3 := Slv.grow (stb_it n) F3 hg (I4.ra)
      replace F4 := Slv.grow (stb_rw (stb_it n)) F4 hg (I4.ra)
      have F5 := Slv.since (stb_ce (stb_it n)) hR5 I4.aw
      clear hR5
      have I5 := I4.call h5 hs5.1 hg
      clear I4 h5 hg
      have D5 := deep_next D4 hs5
      clear D4
      refine ⟨_, rfl, trivial, ?_⟩
      simp only [Act.put, List.setIfInBounds_toArray, List.set_cons_zero, List.set_cons_succ]
      refine sq_pure (.pointer (some ⟨w.heap.size + 1, 0, none⟩)) (by go_simp) trivial ?_
      simp only [Act.put, List.setIfInBounds_toArray, List.set_cons_zero, List.set_cons_succ]
      refine sq_call 83 #[.pointer (some ⟨w.heap.size + 1, 0, none⟩)] (by go_simp) ?_
      refine Calls.mono (rd83 (w.heap.size + 1) k5 s e5 _ I5.rdr I5.le hs) ?_
      rintro e w6 ⟨vs6, x6, k6, e6, rfl, hl6, ho6, hR6, h6, hg, hs6⟩
      obtain ⟨u6_0, u6_1, u6_2, u6_3, rfl⟩ := len_4 hl6
      replace HZ := (hg.block _ (lt_of_blk HZ) (fun q => by injection q with q; omega)).trans HZ
      replace F3 := Slv.grow (stb_it n) F3 hg (I5.ra)
      replace F4 := Slv.grow (stb_rw (stb_it n)) F4 hg (I5.ra)
      replace F5 := Slv.grow (stb_ce (stb_it n)) F5 hg (I5.ra)
      have F6 := Stb.since stb_stg hR6 I5.aw
      clear hR6
      have I6 := I5.call h6 hs6.1 hg
      clear I5 h6 hg
      have D6 := deep_next D5 hs6
      clear D5
      refine ⟨_, rfl, trivial, ?_⟩
      simp only [Act.put, List.setIfInBounds_toArray, List.set_cons_zero, List.set_cons_succ]
      refine sq_pure (.pointer (some ⟨(w.heap.size + 2), 10, none⟩)) (by go_simp) trivial ?_
      simp only [Act.put, List.setIfInBounds_toArray, List.set_cons_zero, List.set_cons_succ]
      refine sq_store 4 _ _ rfl rfl ((w.heap.size + 2)) 10 68 _ #[.int .i64 a0, .int .i64 a1, .int .i64 a2, .int .i64 a3, .int .i64 a4, .int .i64 a5, .int .i64 a6, .int .i64 a7, .int .i64 a8, .int .i64 a9, .bool x2, .slice none 0 0, .slice none 0 0, .slice none 0 0, .slice none 0 0, .slice none 0 0, .slice none 0 0, .slice none 0 0] [.bool x2] rfl rfl I6.blk sz4 (one1 rfl) (putAll_mid [.int .i64 a0, .int .i64 a1, .int .i64 a2, .int .i64 a3, .int .i64 a4, .int .i64 a5, .int .i64 a6, .int .i64 a7, .int .i64 a8, .int .i64 a9] [.bool false] [.slice none 0 0, .slice none 0 0, .slice none 0 0, .slice none 0 0, .slice none 0 0, .slice none 0 0, .slice none 0 0] [.bool x2] rfl) (by simp) ?_
      intro w' hb hg
      replace HZ := (hg.block _ (lt_of_blk HZ) (fun q => by injection q with q; omega)).trans HZ
      replace F3 := Slv.grow (stb_it n) F3 hg (I6.ga)
      replace F4 := Slv.grow (stb_rw (stb_it n)) F4 hg (I6.ga)
      replace F5 := Slv.grow (stb_ce (stb_it n)) F5 hg (I6.ga)
      replace F6 := Stb.grow stb_stg hg (I6.ga) F6
      replace I6 := I6.store hb hg
      clear hb hg
      refine ⟨trivial, ?_⟩
      refine sq_pure (.pointer (some ⟨(w.heap.size + 2), 11, none⟩)) (by go_simp) trivial ?_
      simp only [Act.put, List.setIfInBounds_toArray, List.set_cons_zero, List.set_cons_succ]
      refine sq_store 33 _ _ rfl rfl ((w.heap.size + 2)) 11 68 _ #[.int .i64 a0, .int .i64 a1, .int .i64 a2, .int .i64 a3, .int .i64 a4, .int .i64 a5, .int .i64 a6, .int .i64 a7, .int .i64 a8, .int .i64 a9, .bool x2, .slice A3 x3.length c3, .slice none 0 0, .slice none 0 0, .slice none 0 0, .slice none 0 0, .slice none 0 0, .slice none 0 0] [.slice A3 x3.length c3] rfl rfl I6.blk sz33 (one1 rfl) (putAll_mid [.int .i64 a0, .int .i64 a1, .int .i64 a2, .int .i64 a3, .int .i64 a4, .int .i64 a5, .int .i64 a6, .int .i64 a7, .int .i64 a8, .int .i64 a9, .bool x2] [.slice none 0 0] [.slice none 0 0, .slice none 0 0, .slice none 0 0, .slice none 0 0, .slice none 0 0, .slice none 0 0] [.slice A3 x3.length c3] rfl) (by simp) ?_
      intro w' hb hg
      replace HZ := (hg.block _ (lt_of_blk HZ) (fun q => by injection q with q; omega)).trans HZ
      replace F3 := Slv.grow (stb_it n) F3 hg (I6.ga)
      replace F4 := Slv.grow (stb_rw (stb_it n)) F4 hg (I6.ga)
      replace F5 := Slv.grow (stb_ce (stb_it n)) F5 hg (I6.ga)
      replace F6 := Stb.grow stb_stg hg (I6.ga) F6
      replace I6 := I6.store hb hg
      clear hb hg
      refine ⟨trivial, ?_⟩
      refine sq_pure (.pointer (some ⟨(w.heap.size + 2), 12, none⟩)) (by go_simp) trivial ?_
      simp only [Act.put, List.setIfInBounds_toArray, List.set_cons_zero, List.set_cons_succ]
      refine sq_store 51 _ _ rfl rfl ((w.heap.size + 2)) 12 68 _ #[.int .i64 a0, .int .i64 a1, .int .i64 a2, .int .i64 a3, .int .i64 a4, .int .i64 a5, .int .i64 a6, .int .i64 a7, .int .i64 a8, .int .i64 a9, .bool x2, .slice A3 x3.length c3, .slice A4 x4.length c4, .slice none 0 0, .slice none 0 0, .slice none 0 0, .slice none 0 0, .slice none 0 0] [.slice A4 x4.length c4] rfl rfl I6.blk sz51 (one1 rfl) (putAll_mid [.int .i64 a0, .int .i64 a1, .int .i64 a2, .int .i64 a3, .int .i64 a4, .int .i64 a5, .int .i64 a6, .int .i64 a7, .int .i64 a8, .int .i64 a9, .bool x2, .slice A3 x3.length c3] [.slice none 0 0] [.slice none 0 0, .slice none 0 0, .slice none 0 0, .slice none 0 0, .slice none 0 0] [.slice A4 x4.length c4] rfl) (by simp) ?_
      intro w' hb hg
      replace HZ := (hg.block _ (lt_of_blk HZ) (fun q => by injection q with q; omega)).trans HZ
      replace F3 := Slv.grow (stb_it n) F3 hg (I6.ga)
      replace F4 := Slv.grow (stb_rw (stb_it n)) F4 hg (I6.ga)
      replace F5 := Slv.grow (stb_ce (stb_it n)) F5 hg (I6.ga)
      replace F6 := Stb.grow stb_stg hg (I6.ga) F6
      replace I6 := I6.store hb hg
      clear hb hg
      refine ⟨trivial, ?_⟩
      refine sq_pure (.pointer (some ⟨(w.heap.size + 2), 13, none⟩)) (by go_simp) trivial ?_
      simp only [Act.put, List.setIfInBounds_toArray, List.set_cons_zero, List.set_cons_succ]
      refine sq_store 66 _ _ rfl rfl ((w.heap.size + 2)) 13 68 _ #[.int .i64 a0, .int .i64 a1, .int .i64 a2, .int .i64 a3, .int .i64 a4, .int .i64 a5, .int .i64 a6, .int .i64 a7, .int .i64 a8, .int .i64 a9, .bool x2, .slice A3 x3.length c3, .slice A4 x4.length c4, .slice A5 x5.length c5, .slice none 0 0, .slice none 0 0, .slice none 0 0, .slice none 0 0] [.slice A5 x5.length c5] rfl rfl I6.blk sz66 (one1 rfl) (putAll_mid [.int .i64 a0, .int .i64 a1, .int .i64 a2, .int .i64 a3, .int .i64 a4, .int .i64 a5, .int .i64 a6, .int .i64 a7, .int .i64 a8, .int .i64 a9, .bool x2, .slice A3 x3.length c3, .slice A4 x4.length c4] [.slice none 0 0] [.slice none 0 0, .slice none 0 0, .slice none 0 0, .slice none 0 0] [.slice A5 x5.length c5] rfl) (by simp) ?_
      intro w' hb hg
      replace HZ := (hg.block _ (lt_of_blk HZ) (fun q => by injection q with q; omega)).trans HZ
      replace F3 := Slv.grow (stb_it n) F3 hg (I6.ga)
      replace F4 := Slv.grow (stb_rw (stb_it n)) F4 hg (I6.ga)
      replace F5 := Slv.grow (stb_ce (stb_it n)) F5 hg (I6.ga)
      replace F6 := Stb.grow stb_stg hg (I6.ga) F6
      replace I6 := I6.store hb hg
      clear hb hg
      refine ⟨trivial, ?_⟩
      refine sq_pure (.pointer (some ⟨(w.heap.size + 2), 14, none⟩)) (by go_simp) trivial ?_
      simp only [Act.put, List.setIfInBounds_toArray, List.set_cons_zero, List.set_cons_succ]
      refine sq_store 47 _ _ rfl rfl ((w.heap.size + 2)) 14 68 _ #[.int .i64 a0, .int .i64 a1, .int .i64 a2, .int .i64 a3, .int .i64 a4, .int .i64 a5, .int .i64 a6, .int .i64 a7, .int .i64 a8, .int .i64 a9, .bool x2, .slice A3 x3.length c3, .slice A4 x4.length c4, .slice A5 x5.length c5, u6_0, u6_1, u6_2, u6_3] [u6_0, u6_1, u6_2, u6_3] rfl rfl I6.blk sz47 (by first | assumption | simp [Value.oneCell']) (putAll_mid [.int .i64 a0, .int .i64 a1, .int .i64 a2, .int .i64 a3, .int .i64 a4, .int .i64 a5, .int .i64 a6, .int .i64 a7, .int .i64 a8, .int .i64 a9, .bool x2, .slice A3 x3.length c3, .slice A4 x4.length c4, .slice A5 x5.length c5] [.slice none 0 0, .slice none 0 0, .slice none 0 0, .slice none 0 0] [] [u6_0, u6_1, u6_2, u6_3] rfl) (by simp) ?_
      intro w' hb hg
      replace HZ := (hg.block _ (lt_of_blk HZ) (fun q => by injection q with q; omega)).trans HZ
      replace F3 := Slv.grow (stb_it n) F3 hg (I6.ga)
      replace F4 := Slv.grow (stb_rw (stb_it n)) F4 hg (I6.ga)
      replace F5 := Slv.grow (stb_ce (stb_it n)) F5 hg (I6.ga)
      replace F6 := Stb.grow stb_stg hg (I6.ga) F6
      replace I6 := I6.store hb hg
      clear hb hg
      refine ⟨trivial, ?_⟩
      refine sq_done ?_
      have FR : edP n _ (Since (w.heap.size + 3) _) [.int .i64 a0, .int .i64 a1, .int .i64 a2, .int .i64 a3, .int .i64 a4, .int .i64 a5, .int .i64 a6, .int .i64 a7, .int .i64 a8, .int .i64 a9, .bool x2, .slice A3 x3.length c3, .slice A4 x4.length c4, .slice A5 x5.length c5, u6_0, u6_1, u6_2, u6_3] ([a0, a1, a2, a3, a4, a5, a6, a7, a8, a9], x2, x3, x4, x5, x6) := ⟨_, _, _, _, _, _, _, rfl, ⟨rfl, hxs⟩, F3, F4, F5, F6⟩
      clear F3 F4 F5 F6
      have hone := (one_ed n) _ _ _ _ FR
      have hk0 := hk00.out
      have he0 := he00.out
      have hsA : Res (edR n) s k0 e0 ([a0, a1, a2, a3, a4, a5, a6, a7, a8, a9], x2, x3, x4, x5, x6) k6 e6 := (hs1.seq (hs2.seq (hs3.seq (hs4.seq (hs5.seq hs6)))))
      rw [hk0, he0] at hsA
      obtain ⟨hc1, hc2⟩ := dec_code hsA
      clear hs1 hs2 hs3 hs4 hs5 hs6 hsA
      go_upto_region 9 with fail
      refine wp_region_seq0 (by rfl) ?_
      simp only [List.map]
      refine sq_pure (.pointer (some ⟨w.heap.size + 1, 0, none⟩)) (by go_simp) trivial ?_
      simp only [Act.put, List.setIfInBounds_toArray, List.set_cons_zero, List.set_cons_succ]
      refine sq_call 66 #[.pointer (some ⟨w.heap.size + 1, 0, none⟩)] (by go_simp) ?_
      refine Calls.mono (end66 (w.heap.size + 1) k6 s e6 _ I6.rdr) ?_
      rintro e w' ⟨rfl, hg⟩
      rw [hc1]
      clear hc1
      replace HZ := (hg.block _ (lt_of_blk HZ) (fun q => by injection q with q; omega)).trans HZ
      replace FR := Stb.grow (stb_ed n) hg (by omega) FR
      have hb := (hg.block _ (lt_of_blk I6.blk) (fun q => by injection q with q; omega)).trans I6.blk
      have HG := Lib.hid (grown_trans I6.grown hg)
      clear I6 hg hk0 he0
      obtain ⟨E, hE⟩ : ∃ q, q = decErr (edR n) (bytesN s) := ⟨_, rfl⟩
      rw [← hE] at hc2 ⊢
      refine ⟨_, rfl, trivial, ?_⟩
      simp only [Act.put, List.setIfInBounds_toArray, List.set_cons_zero, List.set_cons_succ]
      refine sq_pure (.int .i64 E) (by go_simp) trivial ?_
      simp only [Act.put, List.setIfInBounds_toArray, List.set_cons_zero, List.set_cons_succ]
      refine sq_done ?_
      have hc3 := Lib.hid hc2
      have HE := Lib.hid hE
      clear hc2 hE
      rcases Int.decEq E 0 with he | he
      · have d0 : (E != 0) = true := by simpa using he
        clear FR hb
        go_upto_region 11 with fail
        refine wp_region_seq0 (by rfl) ?_
        simp only [List.map]
        refine sq_pure (.agg #[.int .i64 0, .int .i64 0, .int .i64 0, .int .i64 0, .int .i64 0, .int .i64 0, .int .i64 0, .int .i64 0, .int .i64 0, .int .i64 0, .bool false, .slice none 0 0, .slice none 0 0, .slice none 0 0, .slice none 0 0, .slice none 0 0, .slice none 0 0, .slice none 0 0]) (by go_simp) trivial ?_
        simp only [Act.put, List.setIfInBounds_toArray, List.set_cons_zero, List.set_cons_succ]
        refine sq_pure (.int .i64 E) (by go_simp) trivial ?_
        simp only [Act.put, List.setIfInBounds_toArray, List.set_cons_zero, List.set_cons_succ]
        refine sq_store_row 68 _ _ rfl rfl (w.heap.size) 68 _ [.int .i64 0, .int .i64 0, .int .i64 0, .int .i64 0, .int .i64 0, .int .i64 0, .int .i64 0, .int .i64 0, .int .i64 0, .int .i64 0, .bool false, .slice none 0 0, .slice none 0 0, .slice none 0 0, .slice none 0 0, .slice none 0 0, .slice none 0 0, .slice none 0 0] rfl rfl HZ size68 ((one_ed n) w (Since 0 w) _ _ (ed0_rep n _ _)) rfl ?_
        intro w2 hb2 hg2
        refine ⟨trivial, ?_⟩
        refine sq_pure (.int .i64 E) (by go_simp) trivial ?_
        simp only [Act.put, List.setIfInBounds_toArray, List.set_cons_zero, List.set_cons_succ]
        refine sq_done ?_
        have HB := Lib.hid (show Below w.heap.size w w2 from ⟨hg2.os.trans HG.out.os, hg2.tape.trans HG.out.tape, hg2.output.trans HG.out.output, Nat.le_trans HG.out.size hg2.size, fun i hi => (hg2.block i (Nat.lt_of_lt_of_le hi HG.out.size) (fun q => by injection q with q; omega)).trans (HG.out.block i hi (fun q => by injection q with q; omega))⟩)
        clear hg2 HG HZ
        go_wp2_with fail
        refine bodyPost_ret (v := .tuple #[.agg #[.int .i64 0, .int .i64 0, .int .i64 0, .int .i64 0, .int .i64 0, .int .i64 0, .int .i64 0, .int .i64 0, .int .i64 0, .int .i64 0, .bool false, .slice none 0 0, .slice none 0 0, .slice none 0 0, .slice none 0 0, .slice none 0 0, .slice none 0 0, .slice none 0 0], .int .i64 E]) (results_row_tmp rfl _ _ (w.heap.size) 68 #[.int .i64 0, .int .i64 0, .int .i64 0, .int .i64 0, .int .i64 0, .int .i64 0, .int .i64 0, .int .i64 0, .int .i64 0, .int .i64 0, .bool false, .slice none 0 0, .slice none 0 0, .slice none 0 0, .slice none 0 0, .slice none 0 0, .slice none 0 0, .slice none 0 0] (0, 0) _ _ rfl rfl hb2 Tryz.underlying68 rfl size68) rfl ?_
        refine ⟨HB.out, [.int .i64 0, .int .i64 0, .int .i64 0, .int .i64 0, .int .i64 0, .int .i64 0, .int .i64 0, .int .i64 0, .int .i64 0, .int .i64 0, .bool false, .slice none 0 0, .slice none 0 0, .slice none 0 0, .slice none 0 0, .slice none 0 0, .slice none 0 0, .slice none 0 0], ed0 n, by rw [← HE.out], (ed0_rep n _ _), (one_ed n) w2 (Since 0 w2) _ _ (ed0_rep n _ _), fun _ => rfl, fun q => absurd (HE.out.trans q) he⟩
      · subst he
        replace hc3 := Lib.hid (hc3.out rfl)
        go_upto_region 12 with fail
        refine wp_region_seq0 (by rfl) ?_
        simp only [List.map]
        refine sq_load_row 68 _ rfl (w.heap.size + 2) 68 #[.int .i64 a0, .int .i64 a1, .int .i64 a2, .int .i64 a3, .int .i64 a4, .int .i64 a5, .int .i64 a6, .int .i64 a7, .int .i64 a8, .int .i64 a9, .bool x2, .slice A3 x3.length c3, .slice A4 x4.length c4, .slice A5 x5.length c5, u6_0, u6_1, u6_2, u6_3] _ rfl hb Tryz.underlying68 rfl size68 trivial ?_
        simp only [Act.put, List.setIfInBounds_toArray, List.set_cons_zero, List.set_cons_succ]
        refine sq_store_row 68 _ _ rfl rfl (w.heap.size) 68 _ [.int .i64 a0, .int .i64 a1, .int .i64 a2, .int .i64 a3, .int .i64 a4, .int .i64 a5, .int .i64 a6, .int .i64 a7, .int .i64 a8, .int .i64 a9, .bool x2, .slice A3 x3.length c3, .slice A4 x4.length c4, .slice A5 x5.length c5, u6_0, u6_1, u6_2, u6_3] rfl rfl HZ size68 hone rfl ?_
        intro w2 hb2 hg2
        refine ⟨trivial, ?_⟩
        refine sq_pure (.int .i64 0) (by go_simp) trivial ?_
        simp only [Act.put, List.setIfInBounds_toArray, List.set_cons_zero, List.set_cons_succ]
        refine sq_done ?_
        have HB := Lib.hid (show Below w.heap.size w w2 from ⟨hg2.os.trans HG.out.os, hg2.tape.trans HG.out.tape, hg2.output.trans HG.out.output, Nat.le_trans HG.out.size hg2.size, fun i hi => (hg2.block i (Nat.lt_of_lt_of_le hi HG.out.size) (fun q => by injection q with q; omega)).trans (HG.out.block i hi (fun q => by injection q with q; omega))⟩)
        have hR2 := Lib.hid (Stb.since (a0 := w.heap.size) (stb_ed n) (Stb.grow (stb_ed n) hg2 (by omega) FR) (by omega))
        clear hg2 HG HZ FR hb
        go_wp2_with fail
        refine bodyPost_ret (v := .tuple #[.agg #[.int .i64 a0, .int .i64 a1, .int .i64 a2, .int .i64 a3, .int .i64 a4, .int .i64 a5, .int .i64 a6, .int .i64 a7, .int .i64 a8, .int .i64 a9, .bool x2, .slice A3 x3.length c3, .slice A4 x4.length c4, .slice A5 x5.length c5, u6_0, u6_1, u6_2, u6_3], .int .i64 0]) (results_row_tmp rfl _ _ (w.heap.size) 68 #[.int .i64 a0, .int .i64 a1, .int .i64 a2, .int .i64 a3, .int .i64 a4, .int .i64 a5, .int .i64 a6, .int .i64 a7, .int .i64 a8, .int .i64 a9, .bool x2, .slice A3 x3.length c3, .slice A4 x4.length c4, .slice A5 x5.length c5, u6_0, u6_1, u6_2, u6_3] (0, 0) _ _ rfl rfl hb2 Tryz.underlying68 rfl size68) rfl ?_
        refine ⟨HB.out, [.int .i64 a0, .int .i64 a1, .int .i64 a2, .int .i64 a3, .int .i64 a4, .int .i64 a5, .int .i64 a6, .int .i64 a7, .int .i64 a8, .int .i64 a9, .bool x2, .slice A3 x3.length c3, .slice A4 x4.length c4, .slice A5 x5.length c5, u6_0, u6_1, u6_2, u6_3], ([a0, a1, a2, a3, a4, a5, a6, a7, a8, a9], x2, x3, x4, x5, x6), by rw [← HE.out], hR2.out, hone, fun q => absurd HE.out.symm q, fun _ => hc3.out⟩
end Go.Proofs.YtmhhcfceikcfbaaGreat
