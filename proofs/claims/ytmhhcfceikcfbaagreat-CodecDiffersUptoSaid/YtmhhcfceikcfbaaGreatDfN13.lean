/- Walks: the iterator of a style's chain. -/
import Derived.Test.YtmhhcfceikcfbaaGreatDfN11
namespace Go.Proofs.YtmhhcfceikcfbaaGreat
open Go.RowKit Go.MapKept
/-- The indexes by id, of the first i styles. -/
def idxN (st : List Sty) : Nat → Int → Option Int
 | 0 => fun _ => none
 | i + 1 => match st[i]? with
  | some s => putF (idxN st i) s.1 (some (i : Int))
  | none => idxN st i
/-- Whether the chain of a style has more than f styles. -/
def chF (st : List Sty) : Nat → Int → Bool
 | f, id => if id = 0 then false else match idxN st st.length id with
  | none => false
  | some v => match f with
   | 0 => true
   | f + 1 => match st[v.toNat]? with
    | some s => chF st f s.2.2.2.1
    | none => false
theorem idxN_at {st : List Sty} : ∀ {i : Nat} {x v : Int}, idxN st i x = some v → ∃ j : Nat, v = (j : Int) ∧ j < i ∧ j < st.length
 | 0, _, _, h => by cases h
 | i + 1, x, v, h => by
  unfold idxN at h
  cases hs : st[i]? with
  | none =>
   rw [hs] at h
   obtain ⟨j, h1, h2, h3⟩ := idxN_at h
   exact ⟨j, h1, by omega, h3⟩
  | some s =>
   rw [hs] at h
   simp only [putF] at h
   split at h
   ·injection h with h
    exact ⟨i, h.symm, by omega, (List.getElem?_eq_some_iff.1 hs).1⟩
   ·obtain ⟨j, h1, h2, h3⟩ := idxN_at h
    exact ⟨j, h1, by omega, h3⟩
theorem idxN_succ {st : List Sty} {i : Nat} {s : Sty} (h : st[i]? = some s) : idxN st (i + 1) = putF (idxN st i) s.1 (some (i : Int)) := by
 rw [idxN, h]
theorem chF_zero {st : List Sty} (f : Nat) : chF st f 0 = false := by unfold chF; rw [if_pos rfl]
theorem chF_none {st : List Sty} (f : Nat) {x : Int} (h : idxN st st.length x = none) : chF st f x = false := by
 unfold chF
 split
 ·rfl
 ·rw [h]
theorem chF_full {st : List Sty} {x v : Int} (h0 : x ≠ 0) (h : idxN st st.length x = some v) : chF st 0 x = true := by
 unfold chF
 rw [if_neg h0, h]
theorem chF_step {st : List Sty} {f : Nat} {x : Int} {j : Nat} {s : Sty} (h0 : x ≠ 0) (h : idxN st st.length x = some (j : Int)) (hs : st[j]? = some s) : chF st (f + 1) x = chF st f s.2.2.2.1 := by
 rw [chF, if_neg h0, h]
 simp only [Int.toNat_natCast, hs]
theorem NumAt.look2 {f : Int → Option Int} {b : Nat} {w : World} (h : NumAt f b w) (x : Int) : (Instr.lookup 127 (.map (some b)) (.int .i64 x) true).run Tryz.prog w = .ok (.tuple #[.int .i64 (numD f x), .bool (f x).isSome]) w := by
 obtain ⟨es, clock, hb, _, _, _, hf⟩ := FunAt.find h x
 have hch : ∀ em, (Instr.checkKey em 10000 3 (.int .i64 x)).run Tryz.prog w = .ok () w := fun em => run_checkKey Tryz.underlying3 (show IsKey (.int .i64) (.int .i64 x) from rfl) em 9999
 unfold numD
 rcases hf with ⟨h1, h2, _⟩ | ⟨j, e0, h1, _, _, h2⟩
 ·have h3 : f x = none := by unfold numF at h2; cases hx : f x with | none => rfl | some v => rw [hx] at h2; cases h2
  simp [Instr.lookup, run_underlying Tryz.underlying127, MapKept.run_getObj_map hb, hch, h1, zero3 w, Result.andThen, h3]
 ·obtain ⟨v, h3, h4⟩ : ∃ v, f x = some v ∧ e0.val = .int .i64 v := by
   unfold numF at h2
   cases hx : f x with
   | none => rw [hx] at h2; cases h2
   | some v => rw [hx] at h2; exact ⟨v, rfl, (Option.some.inj h2).symm⟩
  simp [Instr.lookup, run_underlying Tryz.underlying127, MapKept.run_getObj_map hb, hch, h1, Result.andThen, h3, h4]
theorem EltS.same {b o : Nat} {vs : List Value} {w w' : World} (h : EltS b o vs w) (hb : w'.heap[b]? = w.heap[b]?) : EltS b o vs w' := fun j u hu => (World.cell?_of_block (a := ⟨b, o + j, none⟩) hb).trans (h j u hu)
/-- What of an older world lies as it lay, beside a loop. -/
def KeptI (ex : Nat → Prop) (l Bx : Nat) (W0 wr : World) : Prop := W0.heap.size ≤ wr.heap.size ∧ ∀ i, i < W0.heap.size → ¬ ex i → i ≠ l → i ≠ Bx → wr.heap[i]? = W0.heap[i]?
set_option maxRecDepth 100000 in
set_option maxHeartbeats 4000000 in
theorem iter204 (n : Nat) (hn : 1 ≤ n) (l : Nat) (ex : Nat → Prop) (A Bx : Nat) (cnt : World → Nat) (W0 : World) (G : Nat → Prop) (sl : Value) (st : List Sty) (id0 : Int)
  (hA : W0.heap[A]? = some (.cells #[sl] 42 (0, 0))) (hB : W0.heap[Bx]? = some (.cells #[.int .i64 id0] 3 (0, 0))) (hsl : Slv styP 6 W0 G sl st) (hG : ∀ b, G b → ¬ ex b ∧ b ≠ l ∧ b ≠ Bx)
  (hxA : ¬ ex A ∧ A ≠ l ∧ A ≠ Bx) (hxB : ¬ ex Bx ∧ Bx ≠ l) (hx0 : ∀ i, ex i ∨ i = l → i < W0.heap.size) :
  IterW n 204 #[.pointer (some ⟨A, 0, none⟩), .pointer (some ⟨Bx, 0, none⟩)] l ex Bx cnt st.length (chF st st.length id0) W0 := by
 have hmm := @run_makeMap Tryz.prog
 intro J Jx hJ hJc hY h0
 have HJ := Lib.hid hJ
 have HJc := Lib.hid hJc
 have HY := Lib.hid hY
 have HA := Lib.hid hA
 have HBX := Lib.hid hB
 have HG := Lib.hid hG
 have HXA := Lib.hid hxA
 have HXB := Lib.hid hxB
 have HX0 := Lib.hid hx0
 obtain ⟨A0, cp, rfl, hlc, hcm⟩ := hsl.shape
 unfold maxLen at hcm
 obtain ⟨N, hN⟩ : ∃ N, N = st.length := ⟨_, rfl⟩
 rw [← hN] at hJc hsl HJc hlc hA HA
 obtain ⟨V, hV⟩ : ∃ V, V = chF st N id0 := ⟨_, rfl⟩
 rw [← hN, ← hV]
 have HSL := Lib.hid hsl
 have HN := Lib.hid hN
 have HV := Lib.hid hV
 obtain ⟨m, hm⟩ : ∃ m, m = W0.heap.size := ⟨_, rfl⟩
 obtain ⟨W1, hW1⟩ : ∃ X, X = W0.alloc (.map #[] 0) := ⟨_, rfl⟩
 have HM0 : Hid (NumAt (idxN st 0) m W1) := Lib.hid (by rw [hW1, hm]; exact numAt_new W0)
 have HB0 : Hid (Below W0.heap.size W0 W1) := Lib.hid (by rw [hW1]; exact below_alloc _ _)
 have HJ0 : Hid (J 0 W1) := Lib.hid (by rw [hW1]; exact hJ 0 W0 _ none h0 (World.grownBy_alloc W0 _ none) (fun r e => by cases e))
 have HW1 := Lib.hid hW1
 have HMM := Lib.hid hm
 have eA : W1.cell? ⟨A, 0, none⟩ = some (.slice A0 N cp) := blk_cell ((HB0.out.block A (lt_of_blk hA)).trans hA) 0
 clear hJ hJc hY h0 hA hB hG hxA hxB hx0 hsl hN hV hm hW1
 refine callsIn_wide.2 ?_
 simp only [List.append_toArray, List.cons_append, List.nil_append]
 go_enter Tryz.func204, Tryz.ntmps204
 go_upto_region 1 with fail
 rw [← HW1.out, ← HMM.out]
 clear HW1 hmm
 go_wp2_with fail
 clear eA
 go_loopw [12] (fun iv wr => ∃ i : Nat, iv = .int .i64 (i : Int) ∧ i ≤ N ∧ Hid (NumAt (idxN st i) m wr) ∧ Hid (Below W0.heap.size W0 wr) ∧ Hid (J 0 wr)) (fun iv _ => N - (intOf iv).toNat)
 case atStart => exact ⟨0, rfl, Nat.zero_le _, HM0, HB0, HJ0⟩
 case round =>
  obtain ⟨i, rfl, hin, HM, HB, HJr⟩ := hrel
  clear HM0 HB0 HJ0
  by_cases hlt : i < N
  ·have hlt' : (i : Int) < (N : Int) := by omega
   obtain ⟨y, hy⟩ : ∃ y, st[i]? = some y := ⟨_, List.getElem?_eq_getElem (by rw [← HN.out]; exact hlt)⟩
   obtain ⟨b3, o3, us, hA3, hg3, hbw3, _, hRy, hds⟩ := HSL.out.at i y hy
   subst hA3
   obtain ⟨x0, x1, x2, x3, x4, x5⟩ := y
   obtain ⟨pv, rfl, _, hL⟩ := hRy
   obtain ⟨pA, pc, rfl, _, _⟩ := hL.shape
   simp only at hL hds
   obtain ⟨pn, hpn⟩ : ∃ n, n = x5.length := ⟨_, rfl⟩
   rw [← hpn] at hds
   clear hL hpn
   have hE : EltS b3 (o3 + i * 6) [.int .i64 x0, .int .i64 x1, .string x2, .int .i64 x3, .int .i64 x4, .slice pA pn pc] wr := EltS.same (w := W0) hds (HB.out.block _ hbw3)
   have e0 := hE 0 _ rfl
   have e1 := hE 1 _ rfl
   have e2 := hE 2 _ rfl
   have e3 := hE 3 _ rfl
   have e4 := hE 4 _ rfl
   have e5 := hE 5 _ rfl
   simp only [Nat.add_zero] at e0
   have HNX := Lib.hid (idxN_succ hy)
   clear hE hds hy
   obtain ⟨d, hd0⟩ : ∃ d, d = wr.heap.size := ⟨_, rfl⟩
   obtain ⟨w1, hw1⟩ : ∃ X, X = wr.alloc (.cells #[.int .i64 x0, .int .i64 x1, .string x2, .int .i64 x3, .int .i64 x4, .slice pA pn pc] 107) := ⟨_, rfl⟩
   have hdb : w1.heap[d]? = some (.cells #[.int .i64 x0, .int .i64 x1, .string x2, .int .i64 x3, .int .i64 x4, .slice pA pn pc] 107 (0, 0)) := by rw [hw1]; exact heap_alloc_new' _ _ hd0
   have bd : Below wr.heap.size wr w1 := by rw [hw1]; exact below_alloc _ _
   have HM1 : Hid (NumAt (idxN st i) m w1) := Lib.hid (HM.out.over bd)
   have HJ1 : Hid (J 0 w1) := Lib.hid (by rw [hw1]; exact HJ.out 0 wr _ none HJr.out (World.grownBy_alloc wr _ none) (fun r e => by cases e))
   have HB1 : Hid (Below W0.heap.size W0 w1) := Lib.hid (HB.out.trans (bd.mono HB.out.size))
   have hdm : d ≠ m := fun e => by have := FunAt.lt HM.out; omega
   have hdm : some d ≠ some m := fun e => hdm (Option.some.inj e)
   have HBk := Lib.hid (Below.refl w1.heap.size w1)
   have HD := Lib.hid hdb
   have HWd := Lib.hid hw1
   have HDd := Lib.hid hd0
   have hd := hdb
   clear hdb bd hw1 hd0 HM HB HJr
   go_upto_region 4 with fail
   rw [← HWd.out, ← HDd.out]
   clear HWd HDd e0 e1 e2 e3 e4 e5
   refine wp_region_seq0 (by rfl) ?_
   simp only [List.map]
   refine sq_pure (.map (some m)) (by go_simp) trivial ?_
   simp only [Act.put, PutA, PutZ, PutS]
   refine sq_pure (.pointer (some ⟨d, 0, none⟩)) (by go_simp) trivial ?_
   simp only [Act.put, PutA, PutZ, PutS]
   refine sq_pure (.int .i64 x0) (by have q0 := blk_cell hd 0; go_simp) trivial ?_
   simp only [Act.put, PutA, PutZ, PutS]
   refine sq_pure (.int .i64 (i : Int)) (by go_simp) trivial ?_
   simp only [Act.put, PutA, PutZ, PutS]
   refine sq_updateN _ _ _ rfl m (idxN st i) x0 (i : Int) rfl rfl rfl HM1.out ?_
   intro wuu hSu hgu
   replace hd : wuu.heap[d]? = some (.cells #[.int .i64 x0, .int .i64 x1, .string x2, .int .i64 x3, .int .i64 x4, .slice pA pn pc] 107 (0, 0)) := (hgu.block _ (lt_of_blk hd) hdm).trans hd
   refine ⟨trivial, ?_⟩
   refine sq_done ?_
   have HF : Hid (NumAt (idxN st (i + 1)) m wuu ∧ Below W0.heap.size W0 wuu ∧ J 0 wuu) := Lib.hid ⟨by rw [HNX.out]; exact hSu, below_row HB1.out hgu (by rw [HMM.out]; exact Nat.le_refl _) HB1.out.size, HJ.out 0 _ _ (some m) HJ1.out hgu (fun r e => by cases e; exact .inr (by rw [HMM.out]; exact Nat.le_refl _))⟩
   clear hd hSu hgu HM1 HJ1 HB1 HD
   go_wp2_with fail
   exact ⟨⟨i + 1, by go_num, by omega, Lib.hid HF.out.1, Lib.hid HF.out.2.1, Lib.hid HF.out.2.2⟩, by simp [intOf]; omega⟩
  ·have hlt' : ¬ (i : Int) < (N : Int) := by omega
   obtain rfl : i = N := by omega
   clear hlt hin
   have HK : Hid (KeptI ex l Bx W0 wr) := Lib.hid ⟨HB.out.size, fun k hk _ _ _ => HB.out.block k hk⟩
   have HBr : Hid (wr.heap[Bx]? = some (.cells #[.int .i64 id0] 3 (0, 0))) := Lib.hid ((HB.out.block Bx (lt_of_blk HBX.out)).trans HBX.out)
   have hI0 : ∃ (k : Nat) (x : Int), Hid (wr.heap[Bx]? = some (.cells #[.int .i64 x] 3 (0, 0))) ∧ Hid (NumAt (idxN st i) m wr) ∧ Hid (V = chF st (i - k) x) ∧ k ≤ i ∧ Hid (J k wr) ∧ Hid (KeptI ex l Bx W0 wr) := ⟨0, id0, HBr, HM, HV, Nat.zero_le _, HJr, HK⟩
   have HI0 := Lib.hid hI0
   clear HM HB HJr HK HBr hI0 HV
   go_wp2_with fail
   rename_i NN
   go_loopw [] (fun wr => ∃ (k : Nat) (x : Int), Hid (wr.heap[Bx]? = some (.cells #[.int .i64 x] 3 (0, 0))) ∧ Hid (NumAt (idxN st i) m wr) ∧ Hid (V = chF st (i - k) x) ∧ k ≤ i ∧ Hid (J k wr) ∧ Hid (KeptI ex l Bx W0 wr)) (fun wr => i + 1 - cnt wr)
   case atStart => exact HI0.out
   case round =>
    obtain ⟨k, x, HBr, HMr, HVr, hki, HJk, HKr⟩ := hrel
    clear HI0
    have eB := blk_cell HBr.out 0
    by_cases hx0 : x = 0
    case pos =>
     subst hx0
     have HF : Hid (∃ k, V = false ∧ J k wr) := Lib.hid ⟨k, HVr.out.trans (chF_zero _), HJk.out⟩
     clear HVr
     go_wp2_with fail
     go_end0
     exact ⟨⟨_, rfl⟩, .inl HF.out⟩
    case neg =>
     have f1 : (x == 0) = false := by rw [beq_eq_false_iff_ne]; exact hx0
     have f2 : (x != 0) = true := by simp [bne, f1]
     have hlk := NumAt.look2 HMr.out x
     have HX0' := Lib.hid hx0
     cases hfx : idxN st i x with
     | none =>
      have hD : numD (idxN st i) x = 0 := by unfold numD; rw [hfx]; rfl
      rw [hD, hfx] at hlk
      simp only [Option.isSome_none] at hlk
      have HF : Hid (∃ k, V = false ∧ J k wr) := Lib.hid ⟨k, HVr.out.trans (chF_none _ (by rw [← HN.out]; exact hfx)), HJk.out⟩
      clear HVr hD hfx hx0
      go_wp2_with fail
      refine bodyPost_ret (results_none rfl _ _ _) rfl ?_
      exact ⟨⟨_, rfl⟩, .inl HF.out⟩
     | some v =>
      obtain ⟨j, rfl, hji, hjl⟩ := idxN_at hfx
      have hD : numD (idxN st i) x = (j : Int) := by unfold numD; rw [hfx]; rfl
      rw [hD, hfx] at hlk
      simp only [Option.isSome_some] at hlk
      obtain ⟨y, hy⟩ : ∃ y, st[j]? = some y := ⟨_, List.getElem?_eq_getElem hjl⟩
      have HST : Hid (∀ f, chF st (f + 1) x = chF st f y.2.2.2.1) := Lib.hid (fun f => chF_step hx0 (by rw [← HN.out]; exact hfx) hy)
      have HFU : Hid (chF st 0 x = true) := Lib.hid (chF_full hx0 (by rw [← HN.out]; exact hfx))
      obtain ⟨b3, o3, us, hA3, hg3, hbw3, _, hRy, hds⟩ := HSL.out.at j y hy
      subst hA3
      obtain ⟨x0, x1, x2, x3, x4, x5⟩ := y
      obtain ⟨pv, rfl, _, hL⟩ := hRy
      obtain ⟨pA, pc, rfl, _, _⟩ := hL.shape
      simp only at hL hds
      obtain ⟨pn, hpn⟩ : ∃ n, n = x5.length := ⟨_, rfl⟩
      rw [← hpn] at hds
      clear hL hpn
      have hgq := HG.out b3 hg3
      have HE0 : Hid (EltS b3 (o3 + j * 6) [.int .i64 x0, .int .i64 x1, .string x2, .int .i64 x3, .int .i64 x4, .slice pA pn pc] wr) := Lib.hid (EltS.same (w := W0) hds (HKr.out.2 b3 hbw3 hgq.1 hgq.2.1 hgq.2.2))
      have HAr : Hid (wr.heap[A]? = some (.cells #[.slice (some ⟨b3, o3, none⟩) i cp] 42 (0, 0))) := Lib.hid ((HKr.out.2 A (lt_of_blk HA.out) HXA.out.1 HXA.out.2.1 HXA.out.2.2).trans HA.out)
      have hE := HE0.out
      have e0 := hE 0 _ rfl
      have e1 := hE 1 _ rfl
      have e2 := hE 2 _ rfl
      have e3 := hE 3 _ rfl
      have e4 := hE 4 _ rfl
      have e5 := hE 5 _ rfl
      simp only [Nat.add_zero] at e0
      have eA := blk_cell HAr.out 0
      have hjI : (j : Int) < (i : Int) := by omega
      obtain ⟨fn, tmps, assign, body, hy8, hR⟩ := HY.out k (.agg #[.int .i64 x0, .int .i64 x1, .string x2, .int .i64 x3, .int .i64 x4, .slice pA pn pc]) wr HJk.out
      clear hE hds hy hD hfx hx0
      go_upto_region 8 with fail
      refine (wpIn_wide (n := n)).1 ?_
      gi_wp2_with fail
      refine hR.mono ?_
      rintro e W3 (⟨rfl, hJ3, hk3⟩ | ⟨rfl, hNk, hJx3⟩)
      ·obtain ⟨hc3, hkN⟩ := HJc.out _ _ hJ3
       have q : ∀ b, ¬ ex b → b ≠ l → W3.heap[b]? = wr.heap[b]? := fun b h1 h2 => hk3.block b (fun e => by rcases e with e | e; exact h1 e; exact h2 e)
       have eA3 := blk_cell ((q A HXA.out.1 HXA.out.2.1).trans HAr.out) 0
       have hB3 : W3.heap[Bx]? = some (.cells #[.int .i64 x] 3 (0, 0)) := (q Bx HXB.out.1 HXB.out.2).trans HBr.out
       have eB3 := blk_cell hB3 0
       have fB3 := blk_free hB3 0
       have hE3 : EltS b3 (o3 + j * 6) [.int .i64 x0, .int .i64 x1, .string x2, .int .i64 x3, .int .i64 x4, .slice pA pn pc] W3 := EltS.same HE0.out (q b3 hgq.1 hgq.2.1)
       have e3 := hE3 3 _ rfl
       have hmz : m < W3.heap.size := by rw [hk3.size]; exact FunAt.lt HMr.out
       have hmx : ¬ ex m ∧ m ≠ l ∧ m ≠ Bx := by
        have h1 := HX0.out m
        have h2 := HMM.out
        have h3 := lt_of_blk HBX.out
        exact ⟨fun e => by have := h1 (.inl e); omega, fun e => by have := h1 (.inr e); omega, fun e => by omega⟩
       have hg4 : W3.grownBy (W3.setCell ⟨Bx, 0, none⟩ (.int .i64 x3)) (some Bx) := grownBy_setCell' W3 Bx _
       have HF : Hid ((∃ (k : Nat) (x : Int), Hid ((W3.setCell ⟨Bx, 0, none⟩ (.int .i64 x3)).heap[Bx]? = some (.cells #[.int .i64 x] 3 (0, 0))) ∧ Hid (NumAt (idxN st i) m (W3.setCell ⟨Bx, 0, none⟩ (.int .i64 x3))) ∧ Hid (V = chF st (i - k) x) ∧ k ≤ i ∧ Hid (J k (W3.setCell ⟨Bx, 0, none⟩ (.int .i64 x3))) ∧ Hid (KeptI ex l Bx W0 (W3.setCell ⟨Bx, 0, none⟩ (.int .i64 x3)))) ∧ i + 1 - cnt (W3.setCell ⟨Bx, 0, none⟩ (.int .i64 x3)) < i + 1 - cnt wr) := by
        have hJ4 := HJ.out (k + 1) _ _ (some Bx) hJ3 hg4 (fun r e => by cases e; exact .inl rfl)
        refine Lib.hid ⟨⟨k + 1, x3, Lib.hid (heap_setCell_same W3 Bx 0 _ _ _ hB3), Lib.hid (NumAt.kept HMr.out ?_), Lib.hid ?_, hkN, Lib.hid hJ4, Lib.hid ⟨?_, ?_⟩⟩, ?_⟩
        ·exact (hg4.block m hmz (fun e => hmx.2.2 (Option.some.inj e))).trans (q m hmx.1 hmx.2.1)
        ·rw [HVr.out, show i - k = (i - (k + 1)) + 1 by omega]
         exact HST.out _
        ·have := HKr.out.1
         have h1 := hk3.size
         have h2 := hg4.size
         omega
        ·intro b hb h1 h2 h3
         have h4 : b < W3.heap.size := by rw [hk3.size]; exact Nat.lt_of_lt_of_le hb HKr.out.1
         exact (hg4.block b h4 (fun e => h3 (Option.some.inj e))).trans ((q b h1 h2).trans (HKr.out.2 b hb h1 h2 h3))
        ·rw [(HJc.out _ _ hJ4).1, (HJc.out _ _ HJk.out).1]
         omega
       clear hc3 hkN q hB3 hE3 hmz hmx hg4 hJ3 hk3 e0 e1 e2 e4 e5 eA eB hlk
       gi_wp2_with fail
       go_wp2_with fail
       exact HF.out
      ·have hkN := (HJc.out _ _ HJk.out).2
       have HF : Hid (V = true ∧ Jx W3) := Lib.hid ⟨by rw [HVr.out, show i - k = 0 by have := HN.out; omega]; exact HFU.out, hJx3⟩
       clear hNk hJx3 hkN e0 e1 e2 e3 e4 e5 eA eB hlk
       gi_wp2_with fail
       go_wp2_with fail
       refine bodyPost_ret (results_none rfl _ _ _) rfl ?_
       exact ⟨⟨_, rfl⟩, .inr HF.out⟩
end Go.Proofs.YtmhhcfceikcfbaaGreat
