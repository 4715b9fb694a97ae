/- Walks: the template of a level checked. -/
import Derived.RangeFuncIn
import Derived.RangeFuncRecord
import Derived.RangeFuncLeaves
import Derived.RangeFuncSeq
import Derived.RangeFuncNested
import Derived.Shelf.Abstract
import Derived.OwnWalkIn
import Derived.TacticsInMore
import Derived.LoopIn
import Derived.Test.YtmhhcfceikcfbaaGreatDfN2
namespace Go.Proofs.YtmhhcfceikcfbaaGreat
open Go.RowKit
def lvP (n : Int) (p : Prt) : Bool := decide (n < p.2.1)
set_option maxRecDepth 100000 in
set_option maxHeartbeats 4000000 in
theorem clo216 (x0 : ByteArray) (x1 : Int) (x2 : Bool) (n : Int) (c : Nat) (w : World) (hc : w.cell? ⟨c, 0, none⟩ = some (.int .i64 n)) : Calls Tryz.prog 216 #[.agg #[.string x0, .int .i64 x1, .bool x2], .pointer (some ⟨c, 0, none⟩)] w (RetB (decide (n < x1)) w) := by
 obtain ⟨V, hV⟩ : ∃ V, V = decide (n < x1) := ⟨_, rfl⟩
 rw [← hV]
 have hcl := World.block_lt_of_cell? _ _ hc
 have hc2 : (w.alloc (.cells #[.string x0, .int .i64 x1, .bool x2] 290)).cell? ⟨c, 0, none⟩ = some (.int .i64 n) := (World.cell?_of_block (Below.heap_alloc _ _ _ hcl)).trans hc
 by_cases h : n < x1
 ·have g1 : decide (n < x1) = true := by simpa using h
  have HV := Lib.hid (show V = true by rw [hV, g1])
  clear hV
  go_enter Tryz.func216, Tryz.ntmps216
  go_wp2_with fail
  go_ret
  exact ⟨by rw [HV.out]; rfl, (Below.refl _ _).alloc (Nat.le_refl _) _⟩
 ·have g1 : decide (n < x1) = false := by simpa using h
  have HV := Lib.hid (show V = false by rw [hV, g1])
  clear hV
  go_enter Tryz.func216, Tryz.ntmps216
  go_wp2_with fail
  go_ret
  exact ⟨by rw [HV.out]; rfl, (Below.refl _ _).alloc (Nat.le_refl _) _⟩
set_option maxRecDepth 100000 in
set_option maxHeartbeats 4000000 in
theorem idx226 (n : Int) (c : Nat) (w : World) (v : Value) (l : List Prt) (hv : Sl ptV 3 w w.heap.size v l) (hc : w.cell? ⟨c, 0, none⟩ = some (.int .i64 n)) : Calls Tryz.prog 226 #[v, .func (.func 216) #[] #[.pointer (some ⟨c, 0, none⟩)]] w (RetI (idxP (lvP n) l) w) := by
 obtain ⟨V, hV⟩ : ∃ V, V = idxP (lvP n) l := ⟨_, rfl⟩
 rw [← hV]
 have HVV := Lib.hid hV
 clear hV
 obtain ⟨A, cp, rfl, hlc, hm1, hcs⟩ := hv
 obtain ⟨m, hn⟩ : ∃ m, m = l.length := ⟨_, rfl⟩
 have hnn : m ≤ 9223372036854775807 := by unfold maxLen at hm1; omega
 rw [← hn] at hcs ⊢
 have HN := Lib.hid hn
 have HCS := Lib.hid hcs
 have Hhc := Lib.hid hc
 clear hm1 hn hc hcs hlc
 go_enter Tryz.func226, Tryz.ntmps226
 go_wp2_with fail
 go_loopw [8] (fun iv wr => ∃ i : Nat, iv = .int .i64 (i : Int) ∧ i ≤ m ∧ Hid (∀ y ∈ l.take i, lvP n y = false) ∧ Hid (Below w.heap.size w wr)) (fun iv _ => m - (intOf iv).toNat)
 case atStart => exact ⟨0, rfl, Nat.zero_le _, Lib.hid (fun y hy => by simp at hy), Lib.hid (Below.refl _ _)⟩
 case round =>
  obtain ⟨i, rfl, hin, HI, HB⟩ := hrel
  by_cases hlt : i < m
  ·have hlt' : (i : Int) < (m : Int) := by omega
   obtain ⟨x, hx⟩ : ∃ x, l[i]? = some x := ⟨_, List.getElem?_eq_getElem (by rw [← HN.out]; exact hlt)⟩
   obtain ⟨b1, o1, rfl, hb1, hc1⟩ := HCS.out (by omega)
   obtain ⟨x0, x1, x2⟩ := x
   have hE : EltS b1 (o1 + i * 3) (ptV (x0, x1, x2)) wr := EltS.below (w := w) (fun j u hu => hc1 i _ hx j u hu) hb1 HB.out
   have e0 := hE 0 _ rfl
   have e1 := hE 1 _ rfl
   have e2 := hE 2 _ rfl
   simp only [Nat.add_zero] at e0
   have C := Lib.hid (clo216 x0 x1 x2 n c wr (cell_below Hhc.out HB.out))
   have HX := Lib.hid hx
   clear hx hE hc1 hb1
   go_wp2_with fail
   refine C.out.mono ?_
   rintro e w2 ⟨rfl, hb2⟩
   have HB2 := Lib.hid (HB.out.trans (hb2.mono HB.out.size))
   obtain ⟨r, hr⟩ : ∃ r, r = decide (n < x1) := ⟨_, rfl⟩
   have HR : Hid (r = lvP n (x0, x1, x2)) := Lib.hid hr
   rw [← hr]
   clear hb2 C hr e0 e1 e2 HB
   cases r
   ·have HI2 := Lib.hid (take_all HI.out HX.out HR.out.symm)
    clear HI HR
    go_wp2_with fail
    exact ⟨⟨i + 1, by go_num, by omega, HI2, HB2⟩, by simp [intOf]; omega⟩
   ·have HF := Lib.hid (idxP_hit HI.out HX.out HR.out.symm)
    clear HI HR
    go_wp2_with fail
    go_ret
    exact ⟨by rw [HVV.out, HF.out]; rfl, HB2.out⟩
  ·have hlt' : ¬ (i : Int) < (m : Int) := by omega
   have HF := Lib.hid (idxP_none (p := lvP n) (l := l) (by
    have h1 := HI.out
    rw [List.take_of_length_le (by rw [← HN.out]; omega)] at h1
    exact h1))
   clear HI
   go_wp2_with fail
   go_ret
   exact ⟨by rw [HVV.out, HF.out]; rfl, HB.out⟩
set_option maxRecDepth 100000 in
set_option maxHeartbeats 4000000 in
theorem has215 (n : Int) (c : Nat) (w : World) (v : Value) (l : List Prt) (hv : Sl ptV 3 w w.heap.size v l) (hc : w.cell? ⟨c, 0, none⟩ = some (.int .i64 n)) : Calls Tryz.prog 215 #[v, .func (.func 216) #[] #[.pointer (some ⟨c, 0, none⟩)]] w (RetB (decide (0 ≤ idxP (lvP n) l)) w) := by
 have C := Lib.hid (idx226 n c w v l hv hc)
 obtain ⟨V, hV⟩ : ∃ V, V = idxP (lvP n) l := ⟨_, rfl⟩
 rw [← hV] at C ⊢
 obtain ⟨A, cp, rfl, _, _, _⟩ := hv
 obtain ⟨m, hm⟩ : ∃ m, m = l.length := ⟨_, rfl⟩
 rw [← hm] at C ⊢
 clear hV hm hc
 by_cases h : 0 ≤ V
 ·have g1 : decide (0 ≤ V) = true := by simpa using h
  have g2 : decide (V < 0) = false := by simp; omega
  clear h
  go_enter Tryz.func215, Tryz.ntmps215
  go_wp2_with fail
  refine C.out.mono ?_
  rintro e w2 ⟨rfl, hb2⟩
  have HB := Lib.hid hb2
  clear hb2
  go_wp2_with fail
  go_ret
  exact ⟨by rw [g1]; rfl, HB.out⟩
 ·have g1 : decide (0 ≤ V) = false := by simpa using h
  have g2 : decide (V < 0) = true := by simp; omega
  clear h
  go_enter Tryz.func215, Tryz.ntmps215
  go_wp2_with fail
  refine C.out.mono ?_
  rintro e w2 ⟨rfl, hb2⟩
  have HB := Lib.hid hb2
  clear hb2
  go_wp2_with fail
  go_ret
  exact ⟨by rw [g1]; rfl, HB.out⟩
def tmpT (s : ByteArray) (n : Int) : Int := if (decide (n < 1) || decide (9 < n)) = true then 2 else if parE s = 0 then (if decide (0 ≤ idxP (lvP n) (parL s)) = true then 6 else 0) else parE s
set_option maxRecDepth 100000 in
set_option maxHeartbeats 4000000 in
theorem tmp205 : TmpC tmpT := by
 intro s n w hs
 obtain ⟨V, hV⟩ : ∃ V, V = tmpT s n := ⟨_, rfl⟩
 rw [← hV]
 unfold tmpT at hV
 obtain ⟨qa, hqa⟩ : ∃ q, q = (decide (n < 1) || decide (9 < n)) := ⟨_, rfl⟩
 rw [← hqa] at hV
 have HA := Lib.hid hqa
 have HV := Lib.hid hV
 obtain ⟨c, hc⟩ : ∃ c, c = w.heap.size := ⟨_, rfl⟩
 obtain ⟨W, hW⟩ : ∃ W, W = w.alloc (.cells #[.int .i64 n] 3) := ⟨_, rfl⟩
 have kb : W.heap[c]? = some (.cells #[.int .i64 n] 3 (0, 0)) := by rw [hW]; exact heap_alloc_new' _ _ hc
 have HKB := Lib.hid kb
 have HB : Hid (Below w.heap.size w W) := Lib.hid (by rw [hW]; exact below_alloc _ _)
 have HW := Lib.hid hW
 have HC := Lib.hid hc
 have C := Lib.hid (parse214 s W hs)
 clear hqa hV hW hc kb hs
 go_enter Tryz.func205, Tryz.ntmps205
 go_upto_region 1 with fail
 rw [← HW.out, ← HC.out]
 clear HW HC
 have z0 := blk_cell HKB.out 0
 go_cut [12] from 7 to 11 (fun bv wc => bv = .bool qa ∧ W = wc)
 case first =>
  by_cases p1 : n < 1
  ·have f1 : decide (n < 1) = true := by simpa using p1
   have dF := Lib.hid (show qa = true by rw [HA.out, f1]; rfl)
   go_wp2_with fail
   go_meet
   case rel => exact ⟨by rw [dF.out], rfl⟩
  ·have f1 : decide (n < 1) = false := by simpa using p1
   obtain ⟨q9, hq9⟩ : ∃ q, q = decide (9 < n) := ⟨_, rfl⟩
   have f2 := hq9.symm
   have dF := Lib.hid (show qa = q9 by rw [HA.out, hq9, f1]; rfl)
   clear hq9
   cases q9
   ·go_wp2_with fail
    go_meet
    case rel => exact ⟨by rw [dF.out], rfl⟩
   ·go_wp2_with fail
    go_meet
    case rel => exact ⟨by rw [dF.out], rfl⟩
 case rest =>
  obtain ⟨rfl, rfl⟩ := hcut
  clear HA
  cases qa
  case true =>
   have HF := Lib.hid (show V = 2 from HV.out)
   clear HV C
   go_wp2_with fail
   go_ret
   exact ⟨by rw [HF.out]; rfl, HB.out⟩
  case false =>
   replace HV := Lib.hid (show V = if parE s = 0 then (if decide (0 ≤ idxP (lvP n) (parL s)) = true then 6 else 0) else parE s from HV.out)
   go_wp2_with fail
   refine C.out.mono ?_
   rintro e w1 ⟨v, rfl, hb1, hsl⟩
   have HB1 := Lib.hid (HB.out.trans (hb1.mono HB.out.size))
   have kb1 := blk_ov HKB.out hb1
   have z1 := blk_cell kb1 0
   have CH := Lib.hid (has215 n c w1 v (parL s) hsl z1)
   obtain ⟨E, hE⟩ : ∃ E, E = parE s := ⟨_, rfl⟩
   obtain ⟨cb, hcb⟩ : ∃ b, b = decide (0 ≤ idxP (lvP n) (parL s)) := ⟨_, rfl⟩
   rw [← hE]
   rw [← hE, ← hcb] at HV
   rw [← hcb] at CH
   obtain ⟨A, cp, rfl, _, _, _⟩ := hsl
   obtain ⟨m, hm⟩ : ∃ m, m = (parL s).length := ⟨_, rfl⟩
   rw [← hm] at CH ⊢
   clear hE hcb hm C HB hb1 z0 z1 HKB kb1
   by_cases he : E = 0
   case neg =>
    have g1 : (E == 0) = false := by rw [beq_eq_false_iff_ne]; exact he
    have HF := Lib.hid (show V = E from HV.out.trans (if_neg he))
    clear he HV CH
    go_wp2_with fail
    go_ret
    exact ⟨by rw [HF.out]; rfl, HB1.out⟩
   case pos =>
    subst he
    replace HV := Lib.hid (show V = if cb = true then 6 else 0 from HV.out)
    go_wp2_with fail
    refine CH.out.mono ?_
    rintro e w2 ⟨rfl, hb2⟩
    have HB2 := Lib.hid (HB1.out.trans (hb2.mono HB1.out.size))
    clear CH hb2
    cases cb
    ·have HF := Lib.hid (show V = 0 from HV.out)
     clear HV
     go_wp2_with fail
     go_ret
     exact ⟨by rw [HF.out]; rfl, HB2.out⟩
    ·have HF := Lib.hid (show V = 6 from HV.out)
     clear HV
     go_wp2_with fail
     go_ret
     exact ⟨by rw [HF.out]; rfl, HB2.out⟩
end Go.Proofs.YtmhhcfceikcfbaaGreat
namespace Go.Proofs.YtmhhcfceikcfbaaGreat
open Go.RowKit
def markD (r : Nat) : Deferred := { target := .collected r, args := #[] }
/-- What a round leaves as it lies: all blocks but these. -/
structure KeepX (ex : Nat → Prop) (W W' : World) : Prop where
 os : W'.os = W.os
 tape : W'.tape = W.tape
 output : W'.output = W.output
 size : W'.heap.size = W.heap.size
 block : ∀ i, ¬ ex i → W'.heap[i]? = W.heap[i]?
theorem KeepX.trans {ex : Nat → Prop} {A B C : World} (h : KeepX ex A B) (k : KeepX ex B C) : KeepX ex A C := ⟨k.os.trans h.os, k.tape.trans h.tape, k.output.trans h.output, k.size.trans h.size, fun i hi => (k.block i hi).trans (h.block i hi)⟩
theorem KeepX.mono {ex ex' : Nat → Prop} {A B : World} (h : KeepX ex A B) (hx : ∀ i, ex i → ex' i) : KeepX ex' A B := ⟨h.os, h.tape, h.output, h.size, fun i hi => h.block i (fun e => hi (hx i e))⟩
theorem KeepX.put {ex : Nat → Prop} (W : World) (l : Nat) (o : Obj) (hl : ex l) : KeepX ex W (W.putObj l o) := ⟨rfl, rfl, rfl, by simp [World.putObj], fun i hi => World.putObj_heap_other (fun e => hi (by rw [e]; exact hl))⟩
/-- What holds of a count of rounds and a world, whatever is written from block B on. -/
def FromB {β : Type} (B : Nat) (I : β → World → Prop) : Prop := ∀ k X X' row, I k X → X.grownBy X' row → (∀ r, row = some r → B ≤ r) → I k X'
/-- The iterator's word: every round is offered until there is no more, or one says so. -/
def IterW (n : Nat) (gf : Nat) (lb : Array Value) (l : Nat) (ex : Nat → Prop) (Bx : Nat) (cnt : World → Nat) (N : Nat) (V : Bool) (W : World) : Prop :=
 ∀ (J : Nat → World → Prop) (Jx : World → Prop),
  (∀ k X X' row, J k X → X.grownBy X' row → (∀ r, row = some r → r = Bx ∨ W.heap.size ≤ r) → J k X') →
  (∀ k X, J k X → cnt X = k ∧ k ≤ N) →
  (∀ k v X, J k X → YieldAt Fence.wide (n - 1) Tryz.prog l #[v] X fun e X' => (e = .returned (.bool true) ∧ J (k + 1) X' ∧ KeepX (fun i => ex i ∨ i = l) X X') ∨ (e = .returned (.bool false) ∧ N ≤ k ∧ Jx X')) →
  J 0 W →
  CallsIn Fence.wide n Tryz.prog gf (#[.func (.yield l) #[] #[]] ++ lb) W fun e W' => (∃ v, e = .returned v) ∧ ((∃ k, V = false ∧ J k W') ∨ (V = true ∧ Jx W'))
/-- How a round's body may be left. -/
def roundP (ex : Nat → Prop) (N : Nat) (I : Nat → World → Prop) (Ix : World → Prop) (k : Nat) (W : World) : Exit → Act → World → Prop
 | .normal, _, W' => I (k + 1) W' ∧ KeepX ex W W'
 | .ret, _, W' => N ≤ k ∧ Ix W' ∧ KeepX ex W W'
 | _, _, _ => False
theorem rangeFunc_count {p : Tmp} {body : Code} {g : Operand} {Q : Exit → Act → World → Prop} {a : Act} {w : World} {n : Nat} (h1 : 1 ≤ n)
  {gf : Nat} {lb : Array Value} (hg : a.eval g = .func (.func gf) #[] lb) (eg : ∀ args w, (callFunc gf args).run Tryz.prog w = .ok (.enter gf args) w)
  (B Bx N : Nat) (ex : Nat → Prop) (cnt : World → Nat) (V : Bool) (hBx : B ≤ Bx) (hxw : Bx < w.heap.size) (hex : ∀ i, ex i → i < w.heap.size)
  (I : Nat → World → Prop) (Ix : World → Prop) (hI : FromB B I) (hIx : FromB B (fun (_ : Unit) => Ix)) (hIc : ∀ k X, I k X → cnt X = k ∧ k ≤ N) (h0 : I 0 w)
  (hiter : ∀ W, Below w.heap.size w W → W.heap.size = w.heap.size + 2 → IterW (n - 1) gf lb (w.heap.size + 1) ex Bx cnt N V W)
  (hbody : ∀ (k : Nat) (v : Value) (W : World), w.heap.size < W.heap.size → I k W → body.wpIn (Fence.wide.inRound (w.heap.size + 1)) (n - 1 - 1) Tryz.prog (roundP ex N I Ix k W) { tmps := a.tmps.setIfInBounds p v, defers := [] } W)
  (hdone : ∀ (k : Nat) (W : World), V = false → I k W → W.heap[w.heap.size]? = some (.deferred (some [])) → w.heap.size < W.heap.size → Q .normal { a with defers := markD w.heap.size :: a.defers } W)
  (hstop : ∀ (W : World), V = true → Ix W → W.heap[w.heap.size]? = some (.deferred (some [])) → w.heap.size < W.heap.size → Code.ret.wpIn Fence.wide n Tryz.prog Q { a with defers := markD w.heap.size :: a.defers } W) :
  (Code.rangeFunc g #[p] Code.skip body).wpIn Fence.wide n Tryz.prog Q a w := by
 refine wpIn_rangeFunc ?_
 intro fn hfn
 obtain ⟨rec, hrec⟩ : ∃ rec : LoopState → Option Code → Loop, rec = fun st pe => { state := st, pending := pe, fn, tmps := a.tmps, params := #[p], assign := Code.skip, body, defers := w.heap.size } := ⟨_, rfl⟩
 obtain ⟨W1, hW1⟩ : ∃ W1, (w.alloc (.deferred (some []))).alloc (.loop (rec .ready none)) = W1 := ⟨_, rfl⟩
 have hL1 : W1.heap[w.heap.size + 1]? = some (.loop (rec .ready none)) := by
  rw [← hW1]; have := World.alloc_heap_new (w.alloc (.deferred (some []))) (.loop (rec .ready none)); rwa [World.size_alloc] at this
 have hK1 : W1.heap[w.heap.size]? = some (.deferred (some [])) := by
  rw [← hW1]; exact (Below.heap_alloc _ _ _ (by simp)).trans (World.alloc_heap_new w _)
 have hg1 : w.grownBy (w.alloc (.deferred (some []))) none := World.grownBy_alloc w _ none
 have hg2 : (w.alloc (.deferred (some []))).grownBy W1 none := by rw [← hW1]; exact World.grownBy_alloc _ _ none
 have hI1 : I 0 W1 := hI _ _ _ none (hI _ _ _ none h0 hg1 (fun r e => by cases e)) hg2 (fun r e => by cases e)
 have hb1 : Below w.heap.size w W1 := by
  rw [← hW1]; exact ((Below.refl _ w).alloc (Nat.le_refl _) _).alloc (by simp) _
 have hs1 : W1.heap.size = w.heap.size + 2 := by rw [← hW1]; simp
 have hexl : ∀ i, ex i → i ≠ w.heap.size + 1 ∧ i ≠ w.heap.size := fun i hi => ⟨fun e => by have := hex i hi; omega, fun e => by have := hex i hi; omega⟩
 refine ⟨w.heap.size + 1, [markD w.heap.size], W1, { target := .fn (.func gf) lb, args := #[.func (.yield (w.heap.size + 1)) #[] #[]] }, W1, gf,
  #[.func (.yield (w.heap.size + 1)) #[] #[]] ++ lb, W1, ?_, ?_, ?_, ?_, fun _ => h1, ?_⟩
 ·rw [← hW1, hrec]; exact run_enterLoop_outer _ _ _ _ _
 ·simp only [resolve, hg]
  simp [go_sem]
 ·intro f' _; trivial
 ·simp [invoke, go_sem, eg]
 refine (hiter W1 hb1 hs1
   (fun k W => I k W ∧ W.heap[w.heap.size + 1]? = some (.loop (rec .ready none)) ∧ W.heap[w.heap.size]? = some (.deferred (some [])))
   (fun W => Ix W ∧ W.heap[w.heap.size + 1]? = some (.loop (rec .done (some .ret))) ∧ W.heap[w.heap.size]? = some (.deferred (some [])))
   ?_ (fun k X h => hIc k X h.1) ?_ ⟨hI1, hL1, hK1⟩).mono ?_
 ·rintro k X X' row ⟨h1, h2, h3⟩ hgr hr
  have hne : ∀ i, i = w.heap.size ∨ i = w.heap.size + 1 → row ≠ some i := fun i hi e => by
   rcases hr i e with q | q
   ·omega
   ·rw [hs1] at q; omega
  refine ⟨hI _ _ _ row h1 hgr (fun r e => by rcases hr r e with q | q; omega; rw [hs1] at q; omega), ?_, ?_⟩
  ·exact (hgr.block _ (Array.getElem?_eq_some_iff.1 h2).1 (hne _ (.inr rfl)).symm).trans h2
  ·exact (hgr.block _ (Array.getElem?_eq_some_iff.1 h3).1 (hne _ (.inl rfl)).symm).trans h3
 ·rintro k v X ⟨hi, hl, hk⟩
  have hlt : w.heap.size + 1 < X.heap.size := (Array.getElem?_eq_some_iff.1 hl).1
  have hy := run_yield (P := Tryz.prog) (args := #[v]) hl (by rw [hrec]; rfl)
  rw [hrec] at hy
  refine ⟨fn, _, Code.skip, body, hy, roundIn_of_wpIn hfn (wpIn_skip ?_)⟩
  clear hy
  refine ⟨_, run_beginRound hl (by rw [hrec]), ?_⟩
  have hl2 : (X.putObj (w.heap.size + 1) (.loop { rec .ready none with state := .busy })).heap[w.heap.size + 1]? = some (.loop { rec .ready none with state := .busy }) := World.putObj_heap_same hlt
  have hk2 : (X.putObj (w.heap.size + 1) (.loop { rec .ready none with state := .busy })).heap[w.heap.size]? = some (.deferred (some [])) := (World.putObj_heap_other (by omega)).trans hk
  have hp2 : KeepX (fun i => ex i ∨ i = w.heap.size + 1) X (X.putObj (w.heap.size + 1) (.loop { rec .ready none with state := .busy })) := KeepX.put _ _ _ (.inr rfl)
  have hi2 : I k (X.putObj (w.heap.size + 1) (.loop { rec .ready none with state := .busy })) := hI _ _ _ (some (w.heap.size + 1)) hi (grownBy_putObj' _ _ _) (fun r e => by cases e; omega)
  have hz2 : w.heap.size < (X.putObj (w.heap.size + 1) (.loop { rec .ready none with state := .busy })).heap.size := by rw [hp2.size]; omega
  have hb := hbody k v _ hz2 hi2
  refine wpIn_mono (by simpa using hb) ?_
  have fin : ∀ (jump : Option Code) (W3 : World), KeepX ex (X.putObj (w.heap.size + 1) (.loop { rec .ready none with state := .busy })) W3 →
    (Instr.endRound (w.heap.size + 1) jump).run Tryz.prog W3 = .ok (.bool jump.isNone) (W3.putObj (w.heap.size + 1) (.loop (rec (if jump.isNone then .ready else .done) jump))) ∧
    (W3.putObj (w.heap.size + 1) (.loop (rec (if jump.isNone then .ready else .done) jump))).heap[w.heap.size + 1]? = some (.loop (rec (if jump.isNone then .ready else .done) jump)) ∧
    (W3.putObj (w.heap.size + 1) (.loop (rec (if jump.isNone then .ready else .done) jump))).heap[w.heap.size]? = some (.deferred (some [])) := fun jump W3 hk3 => by
   have hl3 := (hk3.block (w.heap.size + 1) (fun e => (hexl _ e).1 rfl)).trans hl2
   have := run_endRound (P := Tryz.prog) jump hl3
   rw [hrec] at this ⊢
   exact ⟨this, World.putObj_heap_same (Array.getElem?_eq_some_iff.1 hl3).1, (World.putObj_heap_other (by omega)).trans ((hk3.block w.heap.size (fun e => (hexl _ e).2 rfl)).trans hk2)⟩
  rintro e a3 W3 hp
  cases e with
  | normal =>
   obtain ⟨hi3, hk3⟩ := hp
   obtain ⟨hr, hl4, hk4⟩ := fin none W3 hk3
   exact ⟨_, _, hr, .inl ⟨rfl, ⟨hI _ _ _ (some (w.heap.size + 1)) hi3 (grownBy_putObj' _ _ _) (fun r e => by cases e; omega), hl4, hk4⟩, (hp2.trans (hk3.mono (fun i => .inl))).trans (KeepX.put _ _ _ (.inr rfl))⟩⟩
  | ret =>
   obtain ⟨hN, hi3, hk3⟩ := hp
   obtain ⟨hr, hl4, hk4⟩ := fin (some .ret) W3 hk3
   exact ⟨_, _, hr, .inr ⟨rfl, hN, hIx () _ _ (some (w.heap.size + 1)) hi3 (grownBy_putObj' _ _ _) (fun r e => by cases e; omega), hl4, hk4⟩⟩
  | exit id => exact hp.elim
  | goto t => exact hp.elim
  | panic ch => exact hp.elim
  | outgrown => exact hp.elim
 ·rintro e W2 ⟨⟨v, rfl⟩, (⟨k, hV, hi, hl, hk⟩ | ⟨hV, hi, hl, hk⟩)⟩
  ·have hlt : w.heap.size + 1 < W2.heap.size := (Array.getElem?_eq_some_iff.1 hl).1
   exact ⟨none, _, by have := run_endLoop (P := Tryz.prog) hl (by rw [hrec]; simp); rw [hrec] at this; exact this, hdone k _ hV (hI _ _ _ (some (w.heap.size + 1)) hi (grownBy_putObj' _ _ _) (fun r e => by cases e; omega)) ((World.putObj_heap_other (by omega)).trans hk) (by simp [World.putObj]; omega)⟩
  ·have hlt : w.heap.size + 1 < W2.heap.size := (Array.getElem?_eq_some_iff.1 hl).1
   exact ⟨some .ret, _, by have := run_endLoop (P := Tryz.prog) hl (by rw [hrec]; simp); rw [hrec] at this; exact this, hstop _ hV (hIx () _ _ (some (w.heap.size + 1)) hi (grownBy_putObj' _ _ _) (fun r e => by cases e; omega)) ((World.putObj_heap_other (by omega)).trans hk) (by simp [World.putObj]; omega)⟩
/-- A return past marks with no calls. -/
theorem leaves_marks {n : Nat} {fn : Func} {tmps : Array Value} {R : Ending → World → Prop} : ∀ (rs : List Nat) (W : World), rs.Nodup → (∀ r ∈ rs, W.heap[r]? = some (.deferred (some []))) →
  (∀ W', KeepX (fun i => i ∈ rs) W W' → ∃ v, (results fn tmps).run Tryz.prog W' = .ok v W' ∧ R (.returned v) W') → LeavesInM Fence.wide n Tryz.prog fn tmps R (rs.map markD) .returning W
 | [], W, _, _, h => h W ⟨rfl, rfl, rfl, rfl, fun _ _ => rfl⟩
 | r :: rs, W, hn, hm, h => by
  have hn' := List.nodup_cons.1 hn
  refine ⟨by simp, .inl ⟨r, _, rfl, run_takeDeferred (hm r (by simp)), leaves_marks rs _ hn'.2 (fun x hx => ?_) (fun W' hk => ?_)⟩⟩
  ·exact (World.putObj_heap_other (fun e => hn'.1 (by rw [← e]; exact hx))).trans (hm x (by simp [hx]))
  ·exact h W' ((KeepX.put (ex := fun i => i ∈ r :: rs) W r _ (by simp)).trans (hk.mono (fun i hi => by simp [hi])))
end Go.Proofs.YtmhhcfceikcfbaaGreat
