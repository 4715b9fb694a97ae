/- Walk: the regions' iterator. -/
import Derived.Sort.QuietIn
import Derived.Sort.CutIn
import Derived.Test.YtbpegoekjlehcaaW15
namespace Go.Proofs.Ytbpegoekjlehcaa
open Go.RowKit Go.Shelf
attribute [local go_sem] Oper.semAt_some run_eq62 run_gd62

def encG (r : Reg) : Array Value := #[.agg #[.int .i64 r.1, .int .i64 r.2.1, .int .i64 r.2.2.1, .int .i64 r.2.2.2.1, .bool r.2.2.2.2]]
/-- The blocks that an iterator reads behind a round: its own pair, what it has captured. -/
def keptType (t : TypeId) : Prop := t = 62 ∨ t = 22 ∨ t = 26
/-- What a round keeps: what lay below n₀, and every block of these types. -/
def KpN (n₀ : Nat) (W W' : World) : Prop := Below n₀ W W' ∧ ∀ (i : Nat) cs t z, keptType t → W.heap[i]? = some (Obj.cells cs t z) → W'.heap[i]? = some (Obj.cells cs t z)
theorem KpN.trans {n₀ : Nat} {A B C : World} (h : KpN n₀ A B) (k : KpN n₀ B C) : KpN n₀ A C := ⟨h.1.trans k.1, fun i cs t z ht e => k.2 i cs t z ht (h.2 i cs t z ht e)⟩
theorem kpN_b {n₀ : Nat} {w : World} (hn : n₀ ≤ w.heap.size) (W : World) (l : Nat) (o o' : Obj) (hl : w.heap.size ≤ l) (h : W.heap[l]? = some o) (hc : o.isCells = false) (hw : o.isWalk = false) : KpN n₀ W (W.putObj l o') :=
  ⟨belowK_b hn W l o o' hl h hc hw, fun i cs t z _ e => by
    have hne : i ≠ l := fun e' => by
      subst e'
      rw [h] at e
      injection e with e
      subst e
      simp [Obj.isCells] at hc
    rw [World.putObj_heap_other hne]; exact e⟩
theorem KpN.refl (n₀ : Nat) (W : World) : KpN n₀ W W := ⟨Below.refl _ _, fun _ _ _ _ _ e => e⟩
theorem KpN.alloc {n₀ : Nat} {W W' : World} (h : KpN n₀ W W') (hn : n₀ ≤ W'.heap.size) (o : Obj) : KpN n₀ W (W'.alloc o) :=
  ⟨h.1.alloc hn o, fun i cs t z ht e => (Below.heap_alloc _ _ _ (Array.getElem?_eq_some_iff.1 (h.2 i cs t z ht e)).1).trans (h.2 i cs t z ht e)⟩
theorem KpN.drewN {n₀ : Nat} {W W' : World} (h : KpN n₀ W W') (n : Nat) : KpN n₀ W (W'.drewN n) := ⟨below_drewN h.1 n, h.2⟩
/-- A write to a block of another type. -/
theorem KpN.grown {n₀ : Nat} {W W' W'' : World} (h : KpN n₀ W W') {g : Nat} {cs : Array Value} {t : TypeId} {z : Nat × Nat} (hg : W'.grownBy W'' (some g)) (hc : W'.heap[g]? = some (.cells cs t z)) (ht : ¬ keptType t) (hn : n₀ ≤ g) : KpN n₀ W W'' := by
  have hlt := (Array.getElem?_eq_some_iff.1 hc).1
  refine ⟨h.1.trans ((Below.refl n₀ W').grown hg (by omega) (fun k e => by cases e; exact hn)), fun i cs' t' z' ht' e => ?_⟩
  have e1 := h.2 i cs' t' z' ht' e
  have hne : i ≠ g := fun e' => by
    subst e'
    rw [hc] at e1
    injection e1 with e1
    injection e1 with _ e1 _
    subst e1
    exact ht ht'
  exact (hg.block i (Array.getElem?_eq_some_iff.1 e1).1 (by simpa using hne)).trans e1
/-- The three boxes of what the iterator has captured. -/
structure BX (W : World) (Ba Bb Bp : Nat) (va vb vp : Value) : Prop where
  a : W.heap[Ba]? = some (.cells #[va] 22 (0, 0))
  b : W.heap[Bb]? = some (.cells #[vb] 22 (0, 0))
  p : W.heap[Bp]? = some (.cells #[vp] 26 (0, 0))
section
variable {W W' : World} {Ba Bb Bp : Nat} {va vb vp : Value}
theorem BX.kp {n₀ : Nat} (h : BX W Ba Bb Bp va vb vp) (k : KpN n₀ W W') : BX W' Ba Bb Bp va vb vp := ⟨k.2 _ _ _ _ (.inr (.inl rfl)) h.a, k.2 _ _ _ _ (.inr (.inl rfl)) h.b, k.2 _ _ _ _ (.inr (.inr rfl)) h.p⟩
theorem BX.alloc (h : BX W Ba Bb Bp va vb vp) (o : Obj) : BX (W.alloc o) Ba Bb Bp va vb vp := h.kp ((KpN.refl 0 W).alloc (Nat.zero_le _) o)
theorem BX.drewN (h : BX W Ba Bb Bp va vb vp) (n : Nat) : BX (W.drewN n) Ba Bb Bp va vb vp := ⟨h.a, h.b, h.p⟩
theorem BX.over (h : BX W Ba Bb Bp va vb vp) (k : Below W.heap.size W W') : BX W' Ba Bb Bp va vb vp :=
  ⟨(k.block _ (lt_of_block h.a)).trans h.a, (k.block _ (lt_of_block h.b)).trans h.b, (k.block _ (lt_of_block h.p)).trans h.p⟩
end

theorem abides_alloc {β : Type} {B : Nat} {J : β → World → Prop} (h : AbidesFrom B J) {s : β} {W : World} (hs : J s W) (o : Obj) : J s (W.alloc o) :=
  h s W _ none hs (World.grownBy_alloc W o none) (fun r e => by cases e)
theorem abides_drew {β : Type} {B : Nat} {J : β → World → Prop} (h : AbidesFrom B J) {s : β} {W : World} (hs : J s W) : J s W.drew :=
  h s W _ none hs ⟨rfl, rfl, rfl, Nat.le_refl _, fun _ _ _ => rfl⟩ (fun r e => by cases e)


theorem Inc.len {N M : Int} : ∀ {p : List Tok} {i k : Int}, Inc N M p i k → i + p.length ≤ N
  | [], _, _, h => by have := h.1; simp; omega
  | q :: r, i, k, ⟨h1, h2, h3⟩ => by
    have := h3.len
    rw [List.length_cons]
    omega
theorem inc_next {na nb : Nat} {p : List Tok} {m i k : Nat} (hm : m ≤ p.length) (h : Inc na nb (p.drop m) i k) :
    ∃ y0 y1 : Nat, nextR na nb (p.drop m) = ((y0 : Int), (y1 : Int)) ∧ y0 ≤ na ∧ y1 ≤ nb ∧ i ≤ y0 ∧ k ≤ y1 ∧ (∀ hl : m < p.length, p[m] = ((y0 : Int), (y1 : Int))) ∧ (p.length ≤ m → y0 = na ∧ y1 = nb) ∧
      Inc na nb (p.drop m) y0 y1 := by
  by_cases hl : m < p.length
  · rw [List.drop_eq_getElem_cons hl] at h ⊢
    obtain ⟨h1, h2, h3⟩ := h
    have h4 := h3.le
    obtain ⟨y0, hy0⟩ := Int.eq_ofNat_of_zero_le (show 0 ≤ p[m].1 by omega)
    obtain ⟨y1, hy1⟩ := Int.eq_ofNat_of_zero_le (show 0 ≤ p[m].2 by omega)
    have hx : p[m] = ((y0 : Int), (y1 : Int)) := Prod.ext hy0 hy1
    refine ⟨y0, y1, hx, by omega, by omega, by omega, by omega, fun _ => hx, fun h => by omega, ?_, ?_, h3⟩
    · rw [hx]; exact Int.le_refl _
    · rw [hx]; exact Int.le_refl _
  · rw [List.drop_of_length_le (by omega)] at h ⊢
    obtain ⟨h1, h2⟩ := h
    exact ⟨na, nb, rfl, Nat.le_refl _, Nat.le_refl _, by omega, by omega, fun hl => by omega, fun _ => ⟨rfl, rfl⟩, Int.le_refl _, Int.le_refl _⟩
def gapK (i k y0 y1 : Nat) : List Reg := if i < y0 ∨ k < y1 then [((i : Int), (y0 : Int), (k : Int), (y1 : Int), false)] else []
theorem regs_next {na nb f : Nat} {l : List Tok} {i k y0 y1 r : Nat} (hx : nextR na nb l = ((y0 : Int), (y1 : Int))) (hr : r = runN l (y0 : Int) (y1 : Int)) : regs na nb (f + 1) l i k = gapK i k y0 y1 ++
    (if r = 0 then [] else ((y0 : Int), (y0 : Int) + r, (y1 : Int), (y1 : Int) + r, true) ::
      if r = l.length then gapK (y0 + r) (y1 + r) na nb else regs na nb f (l.drop r) (y0 + r : Nat) (y1 + r : Nat)) := by
  subst hr
  rw [regs, hx]
  congr 1
  · unfold gapR gapK; rw [hx]; simp
  · simp only [endR, gapK, Int.natCast_add]
    congr 2
    congr 1
    have e : ((y0 : Int) + (runN l (y0 : Int) (y1 : Int)) < na ∨ (y1 : Int) + (runN l (y0 : Int) (y1 : Int)) < nb) ↔ (y0 + runN l (y0 : Int) (y1 : Int) < na ∨ y1 + runN l (y0 : Int) (y1 : Int) < nb) := by omega
    by_cases c : y0 + runN l (y0 : Int) (y1 : Int) < na ∨ y1 + runN l (y0 : Int) (y1 : Int) < nb
    · rw [if_pos c, if_pos (e.2 c)]
    · rw [if_neg c, if_neg (fun h => c (e.1 h))]
theorem abides_drewN {β : Type} {B : Nat} {J : β → World → Prop} (h : AbidesFrom B J) {s : β} {W : World} (hs : J s W) (n : Nat) : J s (W.drewN n) :=
  h s W _ none hs ⟨rfl, rfl, rfl, Nat.le_refl _, fun _ _ _ => rfl⟩ (fun r e => by cases e)
/-- Behind the first yield of a round. -/
def GapPost (X : World → Prop) (J Jx : List Reg → World → Prop) (pre : List Reg) (n₀ Bn : Nat) (W : World) (y0 y1 : Nat) (s : Value) (wc : World) : Prop :=
  (s = .bool false ∧ J pre wc ∧ wc.heap[Bn]? = some (.cells #[.int .i64 y0, .int .i64 y1] 62 (0, 0)) ∧ Below n₀ W wc ∧ Bn < wc.heap.size ∧ X wc) ∨ (s = .bool true ∧ Jx pre wc)
theorem pre_lt {pre rest T : List Reg} {x : Reg} (h : pre ++ x :: rest = T) : pre.length < T.length := by rw [← h]; simp
theorem pre_at {pre rest T : List Reg} {x : Reg} (h : pre ++ x :: rest = T) : pre ++ [x] <+: T := ⟨rest, by rw [← h]; simp⟩
theorem runN_lt {l : List Tok} {y0 y1 : Int} {t : Nat} {x : Tok} (h : t ≤ runN l y0 y1) (hx : l[t]? = some x) : t < runN l y0 y1 ↔ x = (y0 + t, y1 + t) := by
  constructor
  · intro hl
    have := runN_get l y0 y1 t hl
    rw [hx] at this
    injection this
  · intro e
    rcases Nat.lt_or_ge t (runN l y0 y1) with hl | hl
    · exact hl
    · exfalso
      have ht : t = runN l y0 y1 := by omega
      have htl : t < l.length := (List.getElem?_eq_some_iff.1 hx).1
      have hd : l.drop (runN l y0 y1) = x :: l.drop (t + 1) := by
        rw [← ht, List.drop_eq_getElem_cons htl]
        congr 1
        exact (List.getElem?_eq_some_iff.1 hx).2
      have := runN_stop l y0 y1 x _ hd
      rw [← ht] at this
      exact this e

theorem run_pos {p : List Tok} {m r : Nat} {y0 y1 : Int} (hpm : ∀ hl : m < p.length, p[m] = (y0, y1)) (hr : r = runN (p.drop m) y0 y1) (hl : m < p.length) : 0 < r := by
  rw [hr, List.drop_eq_getElem_cons hl, hpm hl, runN, if_pos rfl]
  omega
theorem run_end {W w : World} {n₀ : Nat} {A : Option Addr} {p : List Tok} {m r t : Nat} {y0 y1 : Int} (hP : TokAt W n₀ A p) (hb : Below n₀ W w) (hr : r = runN (p.drop m) y0 y1) (hq : t = m + r) (htp : t ≤ p.length) :
    decide (t < p.length) = false ∨ (t < p.length ∧ ∃ (bp op : Nat) (za zb : Int), A = some ⟨bp, op, none⟩ ∧ bp < n₀ ∧ w.cell? ⟨bp, op + t * 2, none⟩ = some (.int .i64 za) ∧ w.cell? ⟨bp, op + t * 2 + 1, none⟩ = some (.int .i64 zb) ∧ za = y0 + t - m ∧ (zb == y1 + t - m) = false) ∨
      (t < p.length ∧ ∃ (bp op : Nat) (za zb : Int), A = some ⟨bp, op, none⟩ ∧ bp < n₀ ∧ w.cell? ⟨bp, op + t * 2, none⟩ = some (.int .i64 za) ∧ w.cell? ⟨bp, op + t * 2 + 1, none⟩ = some (.int .i64 zb) ∧ (za == y0 + t - m) = false) := by
  rcases Nat.lt_or_ge t p.length with hlt | hge
  · obtain ⟨bp, op, hA, hbp, g1, g2⟩ := (hP.below hb) t hlt
    have hgt : (p.drop m)[t - m]? = some p[t] := by rw [List.getElem?_drop, show m + (t - m) = t by omega, List.getElem?_eq_getElem hlt]
    have hiff := runN_lt (y0 := y0) (y1 := y1) (by rw [← hr]; omega) hgt
    rw [← hr, show y0 + ((t - m : Nat) : Int) = y0 + t - m by omega, show y1 + ((t - m : Nat) : Int) = y1 + t - m by omega] at hiff
    by_cases b1 : p[t].1 = y0 + t - m
    · refine .inr (.inl ⟨hlt, bp, op, _, _, hA, hbp, g1, g2, b1, ?_⟩)
      rw [beq_eq_false_iff_ne]
      intro b2
      have := hiff.2 (Prod.ext b1 b2)
      omega
    · exact .inr (.inr ⟨hlt, bp, op, _, _, hA, hbp, g1, g2, by rw [beq_eq_false_iff_ne]; exact b1⟩)
  · exact .inl (by simp; omega)

set_option maxRecDepth 100000 in
set_option maxHeartbeats 4000000 in
theorem iter_in (F : Fence) (n : Nat) (h46 : F.fn 46) (hro : F.round = none) (hn : 1 ≤ n) (l n₀ Ba Bb Bp : Nat) (A A' A'' : Option Addr) (na nb ca cb cp : Nat) (p : List Tok) (J Jx : List Reg → World → Prop) (W : World) (hJ : AbidesFrom W.heap.size J)
    (hY : ∀ pre x W1, J pre W1 → pre.length < 2 * p.length + 1 → YieldAt F (n - 1) Try.prog l (encG x) W1 fun e W' =>
      (e = .returned (.bool true) ∧ J (pre ++ [x]) W' ∧ KpN n₀ W1 W') ∨ (e = .returned (.bool false) ∧ Jx (pre ++ [x]) W'))
    (hn0 : n₀ ≤ W.heap.size) (hX : BX W Ba Bb Bp (.slice A na ca) (.slice A' nb cb) (.slice A'' p.length cp)) (hpc : p.length ≤ cp) (hcpm : cp ≤ 9223372036854775807)
    (hP : TokAt W n₀ A'' p) (hI : Inc na nb p 0 0) (hna : na ≤ 1048576) (hnb : nb ≤ 1048576) (h0 : J [] W) :
    CallsIn F n Try.prog 46 #[.func (.yield l) #[] #[], .pointer (some ⟨Bp, 0, none⟩), .pointer (some ⟨Ba, 0, none⟩), .pointer (some ⟨Bb, 0, none⟩)] W fun e W' => (∃ v, e = .returned v) ∧
      ((∃ ys, ys = regs na nb (p.length + 1) p 0 0 ∧ J ys W') ∨ (∃ pre, pre <+: regs na nb (p.length + 1) p 0 0 ∧ Jx pre W')) := by
  cases F with | _ Ff Fd Fal Fr =>
  have hFr : Fr = none := hro
  subst hFr
  have hrl := regs_length na nb (p.length + 1) p 0 0 (by omega)
  have hpl := hI.len
  obtain ⟨T, hT⟩ : ∃ T, T = regs na nb (p.length + 1) p 0 0 := ⟨_, rfl⟩
  have H0 : Hid ([] ++ regs na nb (p.length + 1) (p.drop 0) ((0 : Nat) : Int) ((0 : Nat) : Int) = T) := Lib.hid hT.symm
  have HI0 : Hid (Inc na nb (p.drop 0) ((0 : Nat) : Int) ((0 : Nat) : Int)) := Lib.hid hI
  rw [← hT] at hrl ⊢
  have HP := Lib.hid hP
  have HJA := Lib.hid hJ
  have HY := Lib.hid hY
  clear hT hP hI hJ hY
  have hpl' : p.length ≤ 1048576 := by omega
  refine callsIn_of_wp Try.func46 rfl h46 ?_ hro
  simp only [Try.ntmps46, List.size_toArray, List.length_cons, List.length_nil, Nat.reduceAdd, Nat.reduceSub, Array.replicate_succ, Array.replicate_zero, List.push_toArray, List.append_toArray, List.nil_append, List.cons_append]
  gi_wp2
  gi_loopw [5, 6, 7] (fun iv kv nv wr => ∃ (m i k f : Nat) (pre : List Reg), m ≤ p.length ∧ i ≤ 1048576 ∧ k ≤ 1048576 ∧ iv = .int .i64 i ∧ kv = .int .i64 k ∧ nv = .int .i64 m ∧ Hid (pre ++ regs na nb f (p.drop m) i k = T) ∧ Hid (Inc na nb (p.drop m) i k) ∧ p.length - m < f ∧ Hid (J pre wr) ∧ Below n₀ W wr ∧ W.heap.size ≤ wr.heap.size ∧ BX wr Ba Bb Bp (.slice A na ca) (.slice A' nb cb) (.slice A'' p.length cp)) (fun _ _ nv _ => p.length + 1 - (intOf nv).toNat)
  case atStart => exact ⟨0, 0, 0, p.length + 1, [], Nat.zero_le _, by omega, by omega, rfl, rfl, rfl, H0, HI0, by omega, Lib.hid h0, Below.refl _ _, Nat.le_refl _, hX⟩
  case round =>
    obtain ⟨m, i, k, f, pre, hm, hi, hk, rfl, rfl, rfl, HR, HIn, hf, HJ, hb, hsz, hXr⟩ := hrel
    have e1 : wr.cell? ⟨Ba, 0, none⟩ = some (.slice A na ca) := blk_cell hXr.a 0
    have e2 : wr.cell? ⟨Bb, 0, none⟩ = some (.slice A' nb cb) := blk_cell hXr.b 0
    have e3 : wr.cell? ⟨Bp, 0, none⟩ = some (.slice A'' p.length cp) := blk_cell hXr.p 0
    have hBa' : Ba < wr.heap.size := lt_of_block hXr.a
    have hBb' : Bb < wr.heap.size := lt_of_block hXr.b
    have hBp' : Bp < wr.heap.size := lt_of_block hXr.p
    obtain ⟨y0, y1, hx, hy0, hy1, hiy, hky, hpm, hpe, hIn'⟩ := inc_next hm HIn.out
    obtain ⟨r, hr⟩ : ∃ r, r = runN (p.drop m) (y0 : Int) (y1 : Int) := ⟨_, rfl⟩
    obtain ⟨f, rfl⟩ : ∃ f', f = f' + 1 := ⟨f - 1, by omega⟩
    have HR1 : Hid (pre ++ (gapK i k y0 y1 ++ (if r = 0 then [] else ((y0 : Int), (y0 : Int) + r, (y1 : Int), (y1 : Int) + r, true) ::
      if r = (p.drop m).length then gapK (y0 + r) (y1 + r) na nb else regs na nb f ((p.drop m).drop r) (y0 + r : Nat) (y1 + r : Nat))) = T) := Lib.hid (by rw [← regs_next hx hr]; exact HR.out)
    have hrI := hIn'.run
    rw [← hr] at hrI
    have hrle := runN_le (p.drop m) (y0 : Int) (y1 : Int)
    rw [← hr, List.length_drop] at hrle
    have hrb := hrI.le
    have HrI := Lib.hid hrI
    have Hr := Lib.hid hr
    have Hpm := Lib.hid hpm
    have Hpe := Lib.hid hpe
    clear HR HIn hx hpm hpe hIn' hr hrI
    have J1 := Lib.hid (abides_alloc HJA.out HJ.out (.cells #[.int .i64 y0, .int .i64 y1] 62))
    have HX1 := Lib.hid (hXr.alloc (.cells #[.int .i64 y0, .int .i64 y1] 62))
    have hb1 := hb.alloc (show n₀ ≤ wr.heap.size by omega) (.cells #[.int .i64 y0, .int .i64 y1] 62)
    gi_upto_if 22 with fail
    gi_cut [] from 10 (fun wc => wc = wr.alloc (.cells #[.int .i64 y0, .int .i64 y1] 62))
    case first =>
      by_cases hlt : m < p.length
      · obtain ⟨bp, op, hA, hbp, g1, g2⟩ := (HP.out.below hb) m hlt
        subst hA
        rw [Hpm.out hlt] at g1 g2
        simp only at g1 g2
        have hbp' : bp < wr.heap.size := by omega
        gi_wp2_with fail
        gi_meet
        case rel => rfl
      · obtain ⟨q1, q2⟩ := Hpe.out (by omega)
        subst q1 q2
        gi_wp2_with fail
        gi_meet
        case rel => rfl
    case rest =>
      subst hcut
      gi_upto_region 6 with fail
      gi_cut [48] from 10 (fun s48 wc => GapPost (fun wc => BX wc Ba Bb Bp (.slice A na ca) (.slice A' nb cb) (.slice A'' p.length cp)) J Jx (pre ++ gapK i k y0 y1) n₀ wr.heap.size W y0 y1 s48 wc)
      case first =>
        by_cases c1 : i < y0
        · have hgl : Hid (gapK i k y0 y1 = [((i : Int), (y0 : Int), (k : Int), (y1 : Int), false)]) := Lib.hid (by unfold gapK; rw [if_pos (.inl c1)])
          obtain ⟨fn, tmps, assign, body, hy, hR⟩ := HY.out pre ((i : Int), (y0 : Int), (k : Int), (y1 : Int), false) _ J1.out (by have := HR1.out; rw [hgl.out] at this; have := pre_lt this; omega)
          simp only [encG] at hy
          gi_wp2_with fail
          refine hR.mono ?_
          rintro e W3 (⟨rfl, hJ3, hk3⟩ | ⟨rfl, hJx3⟩)
          · gi_wp2_with fail
            gi_meet
            case rel =>
              have hG := hk3.2 wr.heap.size _ _ _ (.inl rfl) (heap_alloc_new wr _)
              exact .inl ⟨rfl, by rw [hgl.out]; exact hJ3, hG, hb1.trans hk3.1, (Array.getElem?_eq_some_iff.1 hG).1, HX1.out.kp hk3⟩
          · gi_wp2_with fail
            gi_meet
            case rel => exact .inr ⟨rfl, by rw [hgl.out]; exact hJx3⟩
        · have d1 : decide (i < y0) = false := by simpa using c1
          by_cases c2 : k < y1
          · have hgl : Hid (gapK i k y0 y1 = [((i : Int), (y0 : Int), (k : Int), (y1 : Int), false)]) := Lib.hid (by unfold gapK; rw [if_pos (.inr c2)])
            obtain ⟨fn, tmps, assign, body, hy, hR⟩ := HY.out pre ((i : Int), (y0 : Int), (k : Int), (y1 : Int), false) _ J1.out (by have := HR1.out; rw [hgl.out] at this; have := pre_lt this; omega)
            simp only [encG] at hy
            gi_wp2_with fail
            refine hR.mono ?_
            rintro e W3 (⟨rfl, hJ3, hk3⟩ | ⟨rfl, hJx3⟩)
            · gi_wp2_with fail
              gi_meet
              case rel =>
                have hG := hk3.2 wr.heap.size _ _ _ (.inl rfl) (heap_alloc_new wr _)
                exact .inl ⟨rfl, by rw [hgl.out]; exact hJ3, hG, hb1.trans hk3.1, (Array.getElem?_eq_some_iff.1 hG).1, HX1.out.kp hk3⟩
            · gi_wp2_with fail
              gi_meet
              case rel => exact .inr ⟨rfl, by rw [hgl.out]; exact hJx3⟩
          · have d2 : decide (k < y1) = false := by simpa using c2
            have hgl : Hid (gapK i k y0 y1 = []) := Lib.hid (by unfold gapK; rw [if_neg (by omega)])
            gi_wp2_with fail
            refine ⟨fun _ h => (by cases h), ?_⟩
            gi_wp2_with fail
            gi_meet
            case rel => exact .inl ⟨rfl, by rw [hgl.out, List.append_nil]; exact J1.out, heap_alloc_new wr _, hb1, by simp, HX1.out⟩
      case rest =>
        obtain ⟨g0, hg0⟩ : ∃ g0, g0 = pre ++ gapK i k y0 y1 := ⟨_, rfl⟩
        have HR2 : Hid (g0 ++ (if r = 0 then [] else ((y0 : Int), (y0 : Int) + r, (y1 : Int), (y1 : Int) + r, true) ::
            if r = (p.drop m).length then gapK (y0 + r) (y1 + r) na nb else regs na nb f ((p.drop m).drop r) (y0 + r : Nat) (y1 + r : Nat)) = T) := Lib.hid (by rw [hg0, List.append_assoc]; exact HR1.out)
        rw [← hg0] at hcut
        clear HR1 hg0 J1 HJ
        rcases hcut with ⟨rfl, hJ2, hG, hb2, hlt2, hX2⟩ | ⟨rfl, hJx⟩
        · have HJ2 := Lib.hid hJ2
          have d0 : wc.cell? ⟨wr.heap.size, 0, none⟩ = some (.int .i64 y0) := blk_cell hG 0
          have d1 : wc.cell? ⟨wr.heap.size, 1, none⟩ = some (.int .i64 y1) := blk_cell hG 1
          clear hG hJ2
          have e1 : wc.cell? ⟨Ba, 0, none⟩ = some (.slice A na ca) := blk_cell hX2.a 0
          have e2 : wc.cell? ⟨Bb, 0, none⟩ = some (.slice A' nb cb) := blk_cell hX2.b 0
          have e3 : wc.cell? ⟨Bp, 0, none⟩ = some (.slice A'' p.length cp) := blk_cell hX2.p 0
          gi_wp2_with fail
          gi_quiet (fail)
          rename_i nq
          obtain ⟨wd, hwd⟩ : ∃ wd, wd = wc.drewN nq := ⟨_, rfl⟩
          rw [← hwd]
          have HJd : Hid (J g0 wd) := Lib.hid (by rw [hwd]; exact abides_drewN HJA.out HJ2.out _)
          have hbd : Below n₀ W wd := by rw [hwd]; exact below_drewN hb2 _
          have hXd : BX wd Ba Bb Bp (.slice A na ca) (.slice A' nb cb) (.slice A'' p.length cp) := by rw [hwd]; exact hX2.drewN _
          have hzd : W.heap.size ≤ wd.heap.size := by rw [hwd]; show W.heap.size ≤ wc.heap.size; omega
          clear hwd e1 e2 e3 d0 d1 HJ2 hb2 hlt2 hX2
          have e1 : wd.cell? ⟨Ba, 0, none⟩ = some (.slice A na ca) := blk_cell hXd.a 0
          have e2 : wd.cell? ⟨Bb, 0, none⟩ = some (.slice A' nb cb) := blk_cell hXd.b 0
          have e3 : wd.cell? ⟨Bp, 0, none⟩ = some (.slice A'' p.length cp) := blk_cell hXd.p 0
          obtain ⟨q, hq⟩ : ∃ q, q = m + r := ⟨_, rfl⟩
          have hmq : m ≤ q := by omega
          have hqp : q ≤ p.length := by omega
          have Hq := Lib.hid hq
          have hy0q : (y0 : Int) + q - m ≤ 1048576 := by omega
          have hy1q : (y1 : Int) + q - m ≤ 1048576 := by omega
          clear hq
          gi_wp2_with fail
          gi_loop [7] (fun nv => ∃ t : Nat, m ≤ t ∧ t ≤ q ∧ nv = .int .i64 t) (fun nv => p.length - (intOf nv).toNat)
          case atStart => exact ⟨m, Nat.le_refl _, hmq, rfl⟩
          case round =>
            obtain ⟨t, ht1, ht2, rfl⟩ := hrel
            by_cases htq : t < q
            · have hlt : t < p.length := by omega
              obtain ⟨bp, op, hA, hbp, g1, g2⟩ := (HP.out.below hbd) t hlt
              subst hA
              have hgt : (p.drop m)[t - m]? = some p[t] := by rw [List.getElem?_drop, show m + (t - m) = t by omega, List.getElem?_eq_getElem hlt]
              have hiff := runN_lt (y0 := y0) (y1 := y1) (by rw [← Hr.out]; have := Hq.out; omega) hgt
              rw [← Hr.out] at hiff
              have hx := hiff.1 (by have := Hq.out; omega)
              rw [show (y0 : Int) + ((t - m : Nat) : Int) = (y0 : Int) + t - m by omega, show (y1 : Int) + ((t - m : Nat) : Int) = (y1 : Int) + t - m by omega] at hx
              rw [hx] at g1 g2
              simp only at g1 g2
              clear hx hiff hgt
              gi_wp2_with fail
              go_round
              case rel => exact ⟨t + 1, by omega, by omega, by go_num⟩
              case measure => simp [intOf]; omega
            · obtain rfl : t = q := by omega
              rcases run_end HP.out hbd Hr.out Hq.out hqp with d1 | ⟨hlt, bp, op, za, zb, rfl, hbp, g1, g2, rfl, b2⟩ | ⟨hlt, bp, op, za, zb, rfl, hbp, g1, g2, b1⟩
              all_goals
                have hq0 := Hq.out
                by_cases r0 : r = 0
                · obtain rfl : t = m := by omega
                  have hT0 : Hid (g0 = T) := Lib.hid (by have := HR2.out; rw [if_pos r0, List.append_nil] at this; exact this)
                  first
                    | (exfalso
                       have := run_pos Hpm.out Hr.out hlt
                       omega)
                    | (clear hq0 r0
                       gi_wp2_with fail
                       refine bodyPost_ret (results_none rfl _ _ _) rfl ?_
                       have hfin : J T wd := by rw [← hT0.out]; exact HJd.out
                       first | exact ⟨⟨_, rfl⟩, .inl ⟨_, rfl, hfin⟩⟩ | exact ⟨⟨_, rfl⟩, .inl hfin⟩)
                · have bq : ((t : Int) == (m : Int)) = false := by rw [beq_eq_false_iff_ne]; omega
                  have hmq' : m < t := by omega
                  have HR3 : Hid (g0 ++ (((y0 : Int), (y0 : Int) + t - m, (y1 : Int), (y1 : Int) + t - m, true) ::
                    if t = p.length then gapK (y0 + r) (y1 + r) na nb else regs na nb f (p.drop t) (y0 + r : Nat) (y1 + r : Nat)) = T) := Lib.hid (by
                      have h := HR2.out
                      rw [if_neg r0, List.drop_drop, List.length_drop] at h
                      rw [← h, show (y0 : Int) + t - m = (y0 : Int) + r by omega, show (y1 : Int) + t - m = (y1 : Int) + r by omega]
                      congr 2
                      by_cases c : t = p.length
                      · rw [if_pos c, if_pos (by omega)]
                      · rw [if_neg c, if_neg (by omega), hq0])
                  have HI3 : Hid (Inc na nb (p.drop t) ((y0 + r : Nat) : Int) ((y1 + r : Nat) : Int)) := Lib.hid (by
                      have h := HrI.out
                      rw [List.drop_drop, ← hq0] at h
                      rw [Int.natCast_add, Int.natCast_add]
                      exact h)
                  obtain ⟨fn, tmps, assign, body, hy, hR⟩ := HY.out g0 ((y0 : Int), (y0 : Int) + t - m, (y1 : Int), (y1 : Int) + t - m, true) _ HJd.out (by have := pre_lt HR3.out; omega)
                  simp only [encG] at hy
                  clear HR2 hq0 r0
                  gi_wp2_with fail
                  refine hR.mono ?_
                  rintro e W3 (⟨rfl, hJ3, hk3⟩ | ⟨rfl, hJx3⟩)
                  · have hb3 := hbd.trans hk3.1
                    have hX3 := hXd.kp hk3
                    have HJ3 := Lib.hid hJ3
                    have hz3 := hk3.1.size
                    clear hJ3 hk3 e1 e2 e3 hy hR
                    have e1 : W3.cell? ⟨Ba, 0, none⟩ = some (.slice A na ca) := blk_cell hX3.a 0
                    have e2 : W3.cell? ⟨Bb, 0, none⟩ = some (.slice A' nb cb) := blk_cell hX3.b 0
                    have e3 : W3.cell? ⟨Bp, 0, none⟩ = some (.slice _ p.length cp) := blk_cell hX3.p 0
                    by_cases hqe : t = p.length
                    · have bq2 : ((t : Int) == (p.length : Int)) = true := by simp [hqe]
                      have hqr := Hq.out
                      have Hqe := Lib.hid hqe
                      have hgeq : gapK (y0 + r) (y1 + r) na nb = if (y0 : Int) + t - m < na ∨ (y1 : Int) + t - m < nb then [((y0 : Int) + t - m, (na : Int), (y1 : Int) + t - m, (nb : Int), false)] else [] := by
                        unfold gapK
                        rw [show ((y0 + r : Nat) : Int) = (y0 : Int) + t - m by omega, show ((y1 + r : Nat) : Int) = (y1 : Int) + t - m by omega]
                        by_cases c : (y0 : Int) + t - m < na ∨ (y1 : Int) + t - m < nb
                        · rw [if_pos c, if_pos (by omega)]
                        · rw [if_neg c, if_neg (by omega)]
                      have HG := Lib.hid hgeq
                      have HR4 : Hid (g0 ++ (((y0 : Int), (y0 : Int) + t - m, (y1 : Int), (y1 : Int) + t - m, true) :: gapK (y0 + r) (y1 + r) na nb) = T) := Lib.hid (by have h := HR3.out; rw [if_pos hqe] at h; exact h)
                      clear hqe hqr hgeq HR3
                      by_cases c1 : (y0 : Int) + t - m < na
                      · have d1 : decide ((y0 : Int) + t - m < na) = true := by simpa using c1
                        have HR5 : Hid ((g0 ++ [((y0 : Int), (y0 : Int) + t - m, (y1 : Int), (y1 : Int) + t - m, true)]) ++ ((y0 : Int) + t - m, (na : Int), (y1 : Int) + t - m, (nb : Int), false) :: [] = T) := Lib.hid (by
                          have h := HR4.out; rw [HG.out, if_pos (.inl c1)] at h; rw [← h]; simp)
                        obtain ⟨fn, tmps, assign, body, hy, hR⟩ := HY.out (g0 ++ [((y0 : Int), (y0 : Int) + t - m, (y1 : Int), (y1 : Int) + t - m, true)]) ((y0 : Int) + t - m, (na : Int), (y1 : Int) + t - m, (nb : Int), false) _ HJ3.out (by have := pre_lt HR5.out; omega)
                        simp only [encG] at hy
                        gi_wp2_with fail
                        refine hR.mono ?_
                        rintro e W4 (⟨rfl, hJ4, hk4⟩ | ⟨rfl, hJx4⟩)
                        · gi_wp2_with fail
                          refine bodyPost_ret (results_none rfl _ _ _) rfl ?_
                          have hfin : J T W4 := by rw [← HR5.out]; exact hJ4
                          first | exact ⟨⟨_, rfl⟩, .inl ⟨_, rfl, hfin⟩⟩ | exact ⟨⟨_, rfl⟩, .inl hfin⟩
                        · gi_wp2_with fail
                          refine bodyPost_ret (results_none rfl _ _ _) rfl ?_
                          exact ⟨⟨_, rfl⟩, .inr ⟨_, pre_at HR5.out, hJx4⟩⟩
                      · have d1 : decide ((y0 : Int) + t - m < na) = false := by simpa using c1
                        by_cases c2 : (y1 : Int) + t - m < nb
                        · have d2 : decide ((y1 : Int) + t - m < nb) = true := by simpa using c2
                          have HR5 : Hid ((g0 ++ [((y0 : Int), (y0 : Int) + t - m, (y1 : Int), (y1 : Int) + t - m, true)]) ++ ((y0 : Int) + t - m, (na : Int), (y1 : Int) + t - m, (nb : Int), false) :: [] = T) := Lib.hid (by
                            have h := HR4.out; rw [HG.out, if_pos (.inr c2)] at h; rw [← h]; simp)
                          obtain ⟨fn, tmps, assign, body, hy, hR⟩ := HY.out (g0 ++ [((y0 : Int), (y0 : Int) + t - m, (y1 : Int), (y1 : Int) + t - m, true)]) ((y0 : Int) + t - m, (na : Int), (y1 : Int) + t - m, (nb : Int), false) _ HJ3.out (by have := pre_lt HR5.out; omega)
                          simp only [encG] at hy
                          gi_wp2_with fail
                          refine hR.mono ?_
                          rintro e W4 (⟨rfl, hJ4, hk4⟩ | ⟨rfl, hJx4⟩)
                          · gi_wp2_with fail
                            refine bodyPost_ret (results_none rfl _ _ _) rfl ?_
                            have hfin : J T W4 := by rw [← HR5.out]; exact hJ4
                            first | exact ⟨⟨_, rfl⟩, .inl ⟨_, rfl, hfin⟩⟩ | exact ⟨⟨_, rfl⟩, .inl hfin⟩
                          · gi_wp2_with fail
                            refine bodyPost_ret (results_none rfl _ _ _) rfl ?_
                            exact ⟨⟨_, rfl⟩, .inr ⟨_, pre_at HR5.out, hJx4⟩⟩
                        · have d2 : decide ((y1 : Int) + t - m < nb) = false := by simpa using c2
                          have HR5 : Hid (g0 ++ [((y0 : Int), (y0 : Int) + t - m, (y1 : Int), (y1 : Int) + t - m, true)] = T) := Lib.hid (by
                            have h := HR4.out; rw [HG.out, if_neg (by omega)] at h; exact h)
                          gi_wp2_with fail
                          refine bodyPost_ret (results_none rfl _ _ _) rfl ?_
                          have hfin : J T W3 := by rw [← HR5.out]; exact HJ3.out
                          first | exact ⟨⟨_, rfl⟩, .inl ⟨_, rfl, hfin⟩⟩ | exact ⟨⟨_, rfl⟩, .inl hfin⟩
                    · have bq2 : ((t : Int) == (p.length : Int)) = false := by rw [beq_eq_false_iff_ne]; omega
                      have HR4 : Hid ((g0 ++ [((y0 : Int), (y0 : Int) + t - m, (y1 : Int), (y1 : Int) + t - m, true)]) ++ regs na nb f (p.drop t) (y0 + r : Nat) (y1 + r : Nat) = T) := Lib.hid (by have h := HR3.out; rw [if_neg hqe] at h; rw [← h]; simp)
                      have hqr := Hq.out
                      have g0e : (y0 : Int) + t - m = ((y0 + r : Nat) : Int) := by omega
                      have g1e : (y1 : Int) + t - m = ((y1 + r : Nat) : Int) := by omega
                      have G0 := Lib.hid g0e
                      have G1 := Lib.hid g1e
                      have hy0r : y0 + r ≤ 1048576 := by omega
                      have hy1r : y1 + r ≤ 1048576 := by omega
                      have hqf : p.length - t < f := by omega
                      clear hqe hqr g0e g1e HR3
                      gi_wp2_with fail
                      go_roundw
                      case rel => exact ⟨t, y0 + r, y1 + r, f, _, hqp, hy0r, hy1r, by rw [G0.out], by rw [G1.out], rfl, HR4, HI3, hqf, HJ3, hb3, by omega, hX3⟩
                      case measure => simp [intOf]; omega
                  · gi_wp2_with fail
                    refine bodyPost_ret (results_none rfl _ _ _) rfl ?_
                    exact ⟨⟨_, rfl⟩, .inr ⟨_, pre_at HR3.out, hJx3⟩⟩
        · gi_wp2_with fail
          refine bodyPost_ret (results_none rfl _ _ _) rfl ?_
          exact ⟨⟨_, rfl⟩, .inr ⟨_, ⟨_, HR2.out⟩, hJx⟩⟩

theorem iter_stops (F : Fence) (n : Nat) (h46 : F.fn 46) (hro : F.round = none) (hn : 1 ≤ n) (n₀ Ba Bb Bp : Nat) (A A' A'' : Option Addr) (na nb ca cb cp : Nat) (p : List Tok) (w : World)
    (hn0 : n₀ ≤ w.heap.size) (hX : BX w Ba Bb Bp (.slice A na ca) (.slice A' nb cb) (.slice A'' p.length cp)) (hpc : p.length ≤ cp) (hcpm : cp ≤ 9223372036854775807)
    (hP : TokAt w n₀ A'' p) (hI : Inc na nb p 0 0) (hna : na ≤ 1048576) (hnb : nb ≤ 1048576) :
    SeqStopsK F n Try.prog 46 #[.pointer (some ⟨Bp, 0, none⟩), .pointer (some ⟨Ba, 0, none⟩), .pointer (some ⟨Bb, 0, none⟩)] encG (KpN n₀) (fun ys => ys = regs na nb (p.length + 1) p 0 0) (fun pre => pre <+: regs na nb (p.length + 1) p 0 0) (2 * p.length + 1) w :=
  fun l J Jx W hW hJ _ hY h0 => iter_in F n h46 hro hn l n₀ Ba Bb Bp A A' A'' na nb ca cb cp p J Jx W hJ hY (Nat.le_trans hn0 hW.size) (hX.over hW) hpc hcpm (hP.below (hW.mono hn0)) hI hna hnb h0
end Go.Proofs.Ytbpegoekjlehcaa
