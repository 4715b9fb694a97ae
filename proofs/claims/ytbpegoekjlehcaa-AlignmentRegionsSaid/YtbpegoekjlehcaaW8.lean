/- Walk: the table is filled. -/
import Derived.Test.YtbpegoekjlehcaaW7
import Derived.Deep.RegionHeld3
import Derived.Test.YtbpegoekjlehcaaSt
namespace Go.Proofs.Ytbpegoekjlehcaa
open Go.RowKit

theorem info3 : (Try.prog.info? 3).map (fun i => (i.zero, i.size, i.bytes)) = some (some (.int .i64 0), 1, 8) := by kernel_rfl
theorem info5 : (Try.prog.info? 5).map (fun i => (i.zero, i.size, i.bytes)) = some (some (.int .u8 0), 1, 1) := by kernel_rfl

/-- The next step of the table, in one call. -/
theorem set_st {g : Int} {a b : List Tok} {w : World} {B wd P G Rw Bl i k t : Nat} (hP : P = (a.length + 1) * wd) (hst : St g a b w B wd P G Rw Bl (i + 1) (k : Int) t) (ht : t < 2) (hi : i ≤ a.length) (hk : k < wd) (hPb : P ≤ 2049 * 2049) :
    ∃ x : Nat, w.cell? ⟨Rw, t, none⟩ = some (.slice (some ⟨x, 0, none⟩) wd wd) ∧
      ∀ (val : Int) (ch : Nat), oT g a b i k t = val ∧ cT g a b i k t = ch →
        Calls Try.prog 42 #[.pointer (some ⟨G, 0, none⟩), .slice (some ⟨x, 0, none⟩) wd wd, .int .i64 t, .int .i64 i, .int .i64 k, .int .i64 val, .int .u8 ch] w
          fun e w' => e = .returned (.tuple #[]) ∧ St g a b w' B wd P G Rw Bl (i + 1) (k : Int) (t + 1) ∧ Below B w w' := by
  obtain ⟨X, Y, C, hR, hL, hG, hYc, hXc, ⟨x0, hx0⟩, hfx, ⟨y0, hy0⟩, hfy, n1, n2, hq, hBX, hBC, hst'⟩ := St.step hP hst ht hi hk
  refine ⟨X t, ?_, ?_⟩
  · rw [blk_cell hR t]
    match t, ht with
    | 0, _ => rfl
    | 1, _ => rfl
  · rintro val ch ⟨rfl, rfl⟩
    refine (set_any G (X t) (C t) wd P wd t i k _ P wd (oT g a b i k t) (cT g a b i k t) x0 y0 w (by omega) (blk_cell hG 3) ?_ hx0 hy0 hfx hfy n1 n2 hk hq rfl (by omega)).mono ?_
    · rw [blk_cell hG (1 + t)]
      match t, ht with
      | 0, _ => rfl
      | 1, _ => rfl
    · rintro e w' ⟨rfl, rfl⟩
      exact ⟨rfl, hst'.over (Below.refl _ _).drew, (((Below.refl B w).setCell hBX _).setCell hBC _).drew⟩

theorem i68 : (Try.prog.info? 68).map (·.size) = some 4 := by kernel_rfl

set_option maxRecDepth 100000 in
set_option maxHeartbeats 8000000 in
theorem solve_any (va vb : Value) (a b : List Tok) (g : Int) (w : World) (ha : Toks w w.heap.size va a) (hb : Toks w w.heap.size vb b)
    (hwa : WOk a) (hwb : WOk b) (hal : a.length ≤ 2048) (hbl : b.length ≤ 2048) (hg0 : 0 ≤ g) (hg1 : g ≤ 1000) :
    Calls Try.prog 34 #[va, vb, .int .i64 g] w fun e w' => ∃ v, e = .returned v ∧ Table g a b w' w.heap.size v ∧ Below w.heap.size w w' := by
  obtain ⟨A, c, rfl, hn, hc, HA⟩ := ha.tok
  obtain ⟨A', c', rfl, hn', hc', HB⟩ := hb.tok
  clear ha hb
  obtain ⟨wd, hwd⟩ : ∃ wd : Nat, wd = b.length + 1 := ⟨_, rfl⟩
  obtain ⟨P, hP⟩ : ∃ P : Nat, P = (a.length + 1) * wd := ⟨_, rfl⟩
  have hPb : P ≤ 2049 * 2049 := by rw [hP]; exact Nat.mul_le_mul (by omega) (by omega)
  have hPe : ((a.length : Int) + 1) * (wd : Int) = (P : Int) := by rw [hP]; push_cast; rfl
  have hwdI : (b.length : Int) + 1 = (wd : Int) := by omega
  have hwdb : wd ≤ 2049 := by omega
  have hmkR := fun W => run_make_row' (P := Try.prog) 85 3 (.int .i64 0) 8 Try.underlying85 info3 rfl .i64 .i64 wd (by omega) (by omega) W
  have hmkC := fun W => run_make_row' (P := Try.prog) 39 5 (.int .u8 0) 1 Try.underlying39 info5 rfl .i64 .i64 P (by omega) (by omega) W
  have HWD := Lib.hid hwd
  have HP := Lib.hid hP
  clear hwd hP
  obtain ⟨W1, hW1⟩ : ∃ W1 : World, W1 = w.alloc (.cells #[.int .i64 0, nl, nl, .int .i64 0] 68) := ⟨_, rfl⟩
  have hW1b : Below w.heap.size w W1 := by rw [hW1]; exact (Below.refl _ _).alloc (by omega) _
  have hres : W1.heap[w.heap.size]? = some (.cells #[.int .i64 0, nl, nl, .int .i64 0] 68 (0, 0)) := by rw [hW1]; exact heap_alloc_new _ _
  have hsz1 : w.heap.size + 1 ≤ W1.heap.size := by rw [hW1]; simp
  have HW1 := Lib.hid hW1
  have HRES := Lib.hid hres
  clear hW1 hres
  go_enter Try.func34, Try.ntmps34
  go_wp2
  go_loopw [24] (fun k wr => ∃ kk : Nat, k = .int .i64 kk ∧ Ini wr (w.heap.size + 1) wd P (w.heap.size + 1) (w.heap.size + 1 + 1) (w.heap.size + 1 + 1 + 1) kk ∧ Below (w.heap.size + 1) W1 wr) (fun k _ => (2 - intOf k).toNat)
  case atStart =>
    refine ⟨0, rfl, ⟨by omega, by omega, by omega, by omega, .inl ⟨rfl, ?_, ?_, ?_⟩⟩, ?_⟩
    · refine (Below.heap_alloc _ _ _ (by simp)).trans ?_
      exact heap_alloc_new' _ _ (by simp)
    · exact heap_alloc_new' _ _ (by simp)
    · refine (Below.heap_alloc _ _ _ (by simp)).trans ((Below.heap_alloc _ _ _ (by simp)).trans ?_)
      exact heap_alloc_new' _ _ (by simp)
    · rw [HW1.out]
      exact (((Below.refl _ _).alloc (by simp) _).alloc (by simp) _).alloc (by simp) _
  case round =>
    obtain ⟨k, rfl, ⟨q1, q2, q3, q4, hI⟩, hbw⟩ := hrel
    have hzw := Nat.le_trans hsz1 hbw.size
    have hwG : w.heap.size < w.heap.size + 1 := by omega
    generalize w.heap.size + 1 = G at *
    generalize G + 1 = Rw at *
    generalize Rw + 1 = Bl at *
    rcases hI with ⟨hk, hR, hL, hG⟩ | ⟨hk, X, Y, C, p1, p2, p3, p4, rX, rY, rC0, hR, hL, hG⟩ | ⟨hk, X, Y, C, M⟩
    · subst hk
      have l1 := lt_of_block hR
      have l2 := lt_of_block hL
      have l3 := lt_of_block hG
      have c1 := blk_cell hG 3
      have c2 := blk_cell hG 1
      have f2 := blk_free hG 1
      simp at c1 c2
      have HR := Lib.hid hR
      have HL := Lib.hid hL
      have HG := Lib.hid hG
      clear hR hL hG
      go_wp2
      obtain ⟨hG2, rC, hz2, old⟩ := choice_made (P := P) (x := .slice (some ⟨wr.heap.size, 0, none⟩) P P) 1 HG.out
      have hR2 := (old Rw l1 (blk_ne HR.out HG.out (by decide))).trans HR.out
      have hL2 := (old Bl l2 (blk_ne HL.out HG.out (by decide))).trans HL.out
      have hbw2 : Below G W1 ((wr.setCell ⟨G, 1, none⟩ (.slice (some ⟨wr.heap.size, 0, none⟩) P P)).alloc (.cells (madeCells #[.int .u8 0] P) 5)) := (hbw.setCell (by exact q1) _).alloc (by simp; exact hzw) _
      clear c1 c2 f2
      revert hG2 rC hz2 old hR2 hL2 hbw2
      generalize (wr.setCell ⟨G, 1, none⟩ (.slice (some ⟨wr.heap.size, 0, none⟩) P P)).alloc (.cells (madeCells #[.int .u8 0] P) 5) = w2
      intro hG2 rC hz2 old hR2 hL2 hbw2
      have c1 := blk_cell hG2 3
      have c3 := blk_cell hR2 0
      have f3 := blk_free hR2 0
      have c4 := blk_cell hL2 0
      have f4 := blk_free hL2 0
      simp at c1 c3 c4
      have l3 := lt_of_block hR2
      have l4 := lt_of_block hL2
      have l5 := lt_of_block hG2
      have l5' : G < w2.heap.size + 1 := by omega
      have l3' : Rw < w2.heap.size + 1 := by omega
      have l4' : Bl < w2.heap.size + 1 := by omega
      have HZ := Nat.le_trans hsz1 hbw2.size
      have HI1 : Hid (∀ X Y, (X = w2.heap.size ∧ Y = w2.heap.size + 1) ∨ (X = w2.heap.size + 1 ∧ Y = w2.heap.size) → Ini (mk2 w2 Rw Bl wd 0 X Y) G wd P G Rw Bl 1 ∧ Below G W1 (mk2 w2 Rw Bl wd 0 X Y)) :=
        Lib.hid fun X Y h => ⟨ini_1 q1 q2 q3 q4 hzw (by omega) hG2 rC hR2 hL2 h, below_mk2 hbw2 q2 q3 (by omega)⟩
      clear hR2 hL2 hG2 hz2 old
      go_region
      · have R := HI1.out (w2.heap.size) (w2.heap.size + 1) (.inl ⟨rfl, rfl⟩)
        clear c1 c3 c4 f3 f4 HI1 rC
        go_wp2
        go_roundw
        case rel => exact ⟨1, rfl, R.1, R.2⟩
        case measure => simp [intOf]
      · have R := HI1.out (w2.heap.size + 1) (w2.heap.size) (.inr ⟨rfl, rfl⟩)
        clear c1 c3 c4 f3 f4 HI1 rC
        go_wp2
        go_roundw
        case rel => exact ⟨1, rfl, R.1, R.2⟩
        case measure => simp [intOf]
    · subst hk
      have l1 := lt_of_block hR
      have l2 := lt_of_block hL
      have l3 := lt_of_block hG
      have c1 := blk_cell hG 3
      have c2 := blk_cell hG 2
      have f2 := blk_free hG 2
      simp at c1 c2
      have HR := Lib.hid hR
      have HL := Lib.hid hL
      have HG := Lib.hid hG
      have HX := Lib.hid rX
      have HY := Lib.hid rY
      have HC0 := Lib.hid rC0
      clear hR hL hG rX rY rC0
      go_wp2
      obtain ⟨hG2, rC, hz2, old⟩ := choice_made (P := P) (x := .slice (some ⟨wr.heap.size, 0, none⟩) P P) 2 HG.out
      have hR2 := (old Rw l1 (blk_ne HR.out HG.out (by decide))).trans HR.out
      have hL2 := (old Bl l2 (blk_ne HL.out HG.out (by decide))).trans HL.out
      have rX2 := HX.out.of_block (old X HX.out.lt (rowIs_ne HX.out HG.out (by decide)))
      have rY2 := HY.out.of_block (old Y HY.out.lt (rowIs_ne HY.out HG.out (by decide)))
      have rC2 := HC0.out.of_block (old C HC0.out.lt (rowIs_ne HC0.out HG.out (by decide)))
      have hCne : C ≠ wr.heap.size := Nat.ne_of_lt HC0.out.lt
      have hbw2 : Below G W1 ((wr.setCell ⟨G, 2, none⟩ (.slice (some ⟨wr.heap.size, 0, none⟩) P P)).alloc (.cells (madeCells #[.int .u8 0] P) 5)) := (hbw.setCell (by exact q1) _).alloc (by simp; exact hzw) _
      clear c1 c2 f2
      revert hG2 rC hz2 old hR2 hL2 hbw2 rX2 rY2 rC2
      generalize (wr.setCell ⟨G, 2, none⟩ (.slice (some ⟨wr.heap.size, 0, none⟩) P P)).alloc (.cells (madeCells #[.int .u8 0] P) 5) = w2
      intro hG2 rC hz2 old hR2 hL2 rX2 rY2 rC2 hbw2
      have c1 := blk_cell hG2 3
      have c3 := blk_cell hR2 1
      have f3 := blk_free hR2 1
      have c4 := blk_cell hL2 1
      have f4 := blk_free hL2 1
      simp at c1 c3 c4
      have l3 := lt_of_block hR2
      have l4 := lt_of_block hL2
      have l5 := lt_of_block hG2
      have l5' : G < w2.heap.size + 1 := by omega
      have l3' : Rw < w2.heap.size + 1 := by omega
      have l4' : Bl < w2.heap.size + 1 := by omega
      have HZ := Nat.le_trans hsz1 hbw2.size
      have HI1 : Hid (∀ X Y, (X = w2.heap.size ∧ Y = w2.heap.size + 1) ∨ (X = w2.heap.size + 1 ∧ Y = w2.heap.size) → Ini (mk2 w2 Rw Bl wd 1 X Y) G wd P G Rw Bl 2 ∧ Below G W1 (mk2 w2 Rw Bl wd 1 X Y)) :=
        Lib.hid fun X Y h => ⟨ini_2 q1 q2 q3 q4 hzw (by omega) p1 p2 p3 p4 hCne rX2 rY2 rC2 hG2 rC hR2 hL2 h, below_mk2 hbw2 q2 q3 (by omega)⟩
      clear hR2 hL2 hG2 hz2 old hCne HC0 HX HY rX2 rY2 rC2
      go_region
      · have R := HI1.out (w2.heap.size) (w2.heap.size + 1) (.inl ⟨rfl, rfl⟩)
        clear c1 c3 c4 f3 f4 HI1 rC
        go_wp2
        go_roundw
        case rel => exact ⟨2, rfl, R.1, R.2⟩
        case measure => simp [intOf]
      · have R := HI1.out (w2.heap.size + 1) (w2.heap.size) (.inr ⟨rfl, rfl⟩)
        clear c1 c3 c4 f3 f4 HI1 rC
        go_wp2
        go_roundw
        case rel => exact ⟨2, rfl, R.1, R.2⟩
        case measure => simp [intOf]
    · subst hk
      have HST := Lib.hid (St.start (g := g) (a := a) (b := b) HWD.out M)
      clear M
      go_wp2
      obtain ⟨wo, hwo⟩ : ∃ wo : World, wo = wr := ⟨_, rfl⟩
      rw [← hwo] at HST hbw ⊢
      clear hwo
      go_loopw [11] (fun iv wr => ∃ D : Nat, D ≤ a.length + 1 ∧ iv = .int .i64 ((D : Int) - 1) ∧ St g a b wr G wd P G Rw Bl D (b.length : Int) 0 ∧ Below G W1 wr) (fun iv _ => (intOf iv + 1).toNat)
      case atStart => exact ⟨a.length + 1, by omega, by go_num, HST.out, hbw⟩
      case round =>
        obtain ⟨D, hD, rfl, hst, hbo⟩ := hrel
        clear HST hbw
        have HST := Lib.hid hst; clear hst
        by_cases hD0 : D = 0
        · subst hD0
          obtain ⟨Y, C, rc, hL, hG, hbest, hCs, hrc⟩ := HST.out.fin HWD.out
          have hR := (hbo.block _ hwG).trans HRES.out
          have lG := lt_of_block hG
          have lR := lt_of_block hR
          have hneg : (((0 : Nat) : Int) - 1) = -1 := by omega
          rw [hneg]
          clear hneg HST
          have d1 : wr.cell? ⟨Bl, 0, none⟩ = some (.slice (some ⟨Y 0, 0, none⟩) wd wd) := blk_cell hL 0
          have d2 : wr.cell? ⟨G, 0, none⟩ = some (.int .i64 0) := blk_cell hG 0
          have d3 : wr.cell? ⟨G, 1, none⟩ = some (.slice (some ⟨C 0, 0, none⟩) P P) := blk_cell hG 1
          have d4 : wr.cell? ⟨G, 2, none⟩ = some (.slice (some ⟨C 1, 0, none⟩) P P) := blk_cell hG 2
          have d5 : wr.cell? ⟨G, 3, none⟩ = some (.int .i64 wd) := blk_cell hG 3
          have d6 := blk_free hG 0
          have e1 : wr.cell? ⟨w.heap.size, 0, none⟩ = some (.int .i64 0) := blk_cell hR 0
          have e2 : wr.cell? ⟨w.heap.size, 1, none⟩ = some nl := blk_cell hR 1
          have e3 : wr.cell? ⟨w.heap.size, 2, none⟩ = some nl := blk_cell hR 2
          have e4 : wr.cell? ⟨w.heap.size, 3, none⟩ = some (.int .i64 0) := blk_cell hR 3
          have f1 := blk_free hR 0
          have f2 := blk_free hR 1
          have f3 := blk_free hR 2
          have f4 := blk_free hR 3
          have hne : ¬ G = w.heap.size := by omega
          have hne' : ¬ w.heap.size = G := by omega
          have HCS := Lib.hid hCs
          have HRC := Lib.hid hrc
          have hwd1 : (0 : Nat) < wd := by have := HWD.out; omega
          have HHR := Lib.hid hR
          clear hL hG hR hCs hrc
          go_wp2
          have hfin : (((((wr.setCell ⟨G, 0, none⟩ (.int .i64 (oT g a b 0 0 0))).setCell ⟨w.heap.size, 0, none⟩ (.int .i64 (oT g a b 0 0 0))).setCell ⟨w.heap.size, 1, none⟩ (.slice (some ⟨C 0, 0, none⟩) P P)).setCell
              ⟨w.heap.size, 2, none⟩ (.slice (some ⟨C 1, 0, none⟩) P P)).setCell ⟨w.heap.size, 3, none⟩ (.int .i64 wd)).heap[w.heap.size]? =
              some (.cells #[.int .i64 (oT g a b 0 0 0), .slice (some ⟨C 0, 0, none⟩) P P, .slice (some ⟨C 1, 0, none⟩) P P, .int .i64 wd] 68 (0, 0)) :=
            heap_setCell_same _ _ _ _ _ _ (heap_setCell_same _ _ _ _ _ _ (heap_setCell_same _ _ _ _ _ _ (heap_setCell_same _ _ _ _ _ _ ((Below.heap_setCell _ ⟨G, 0, none⟩ _ _ hne').trans HHR.out))))
          refine bodyPost_ret (results_cell_row Try.results34 _ _ w.heap.size 68 _ (0, 0) _ rfl hfin Try.underlying68 rfl i68) rfl ⟨_, rfl, ⟨C, rc, ?_, ?_, ?_⟩, ?_⟩
          · rw [HP.out, HWD.out]; rfl
          · intro s hs
            obtain ⟨k1, k2, k3⟩ := HCS.out s hs
            have k4 : C s ≠ w.heap.size := by omega
            refine ⟨by omega, ?_⟩
            rw [← HWD.out, ← HP.out]
            exact ((((k3.setOther k2 _).setOther k4 _).setOther k4 _).setOther k4 _).setOther k4 _
          · intro i j s hi hj hs
            rw [← HWD.out]
            exact HRC.out i j s hi (by have := HWD.out; omega) hs
          · have hb0 : Below w.heap.size w wr := hW1b.trans (hbo.mono (by omega))
            exact ((((hb0.setCell (by exact Nat.le_of_lt hwG) _).setCell (by exact Nat.le_refl _) _).setCell (by exact Nat.le_refl _) _).setCell (by exact Nat.le_refl _) _).setCell (by exact Nat.le_refl _) _
        · obtain ⟨i, hi⟩ : ∃ i, D = i + 1 := ⟨D - 1, by omega⟩
          subst hi
          have hcast : ((i + 1 : Nat) : Int) - 1 = (i : Int) := by omega
          rw [hcast]
          clear hcast
          go_wp2
          obtain ⟨wm, hwm⟩ : ∃ wm : World, wm = wr := ⟨_, rfl⟩
          rw [← hwm] at HST hbo ⊢
          clear hwm
          go_loopw [12] (fun kv wr => ∃ K : Int, -1 ≤ K ∧ K ≤ b.length ∧ kv = .int .i64 K ∧ St g a b wr G wd P G Rw Bl (i + 1) K 0 ∧ Below G W1 wr) (fun kv _ => (intOf kv + 1).toNat)
          case atStart => exact ⟨b.length, by omega, by omega, rfl, HST.out, hbo⟩
          case round =>
            obtain ⟨K, hK1, hK2, rfl, hst, hbm⟩ := hrel
            clear HST hbo
            have HST := Lib.hid hst; clear hst
            by_cases hK0 : K = -1
            · subst hK0
              obtain ⟨X, Y, hR, hL, hRL, hbR, hbL, hsw⟩ := St.swap HWD.out rfl HST.out
              have hbs := (((hbm.setCell (p := ⟨Rw, 0, none⟩) hbR (sl (Y 0) wd)).setCell (p := ⟨Rw, 1, none⟩) hbR (sl (Y 1) wd)).setCell (p := ⟨Bl, 0, none⟩) hbL (sl (X 0) wd)).setCell (p := ⟨Bl, 1, none⟩) hbL (sl (X 1) wd)
              have HS2 := Lib.hid hsw
              have HB2 := Lib.hid hbs
              clear hsw hbs
              have c1 : wr.cell? ⟨Rw, 0, none⟩ = some (.slice (some ⟨X 0, 0, none⟩) wd wd) := blk_cell hR 0
              have c2 : wr.cell? ⟨Rw, 1, none⟩ = some (.slice (some ⟨X 1, 0, none⟩) wd wd) := blk_cell hR 1
              have c3 : wr.cell? ⟨Bl, 0, none⟩ = some (.slice (some ⟨Y 0, 0, none⟩) wd wd) := blk_cell hL 0
              have c4 : wr.cell? ⟨Bl, 1, none⟩ = some (.slice (some ⟨Y 1, 0, none⟩) wd wd) := blk_cell hL 1
              have f1 := blk_free hR 0
              have f2 := blk_free hR 1
              have f3 := blk_free hL 0
              have f4 := blk_free hL 1
              have hLR : Bl ≠ Rw := hRL.symm
              clear hR hL HST
              go_wp2
              go_roundw
              case rel => exact ⟨i, by omega, by go_num, HS2.out, HB2.out⟩
              case measure => simp [intOf]
            · obtain ⟨k, rfl⟩ := Int.eq_ofNat_of_zero_le (show 0 ≤ K by omega)
              go_wp2
              obtain ⟨wi, hwi⟩ : ∃ wi : World, wi = wr := ⟨_, rfl⟩
              rw [← hwi] at HST hbm ⊢
              clear hwi
              go_loopw [60] (fun tv wr => ∃ t : Nat, t ≤ 2 ∧ tv = .int .i64 t ∧ St g a b wr G wd P G Rw Bl (i + 1) k t ∧ Below G W1 wr) (fun tv _ => (2 - intOf tv).toNat)
              case atStart => exact ⟨0, by omega, rfl, HST.out, hbm⟩
              case round =>
                obtain ⟨t, ht, rfl, hst, hbi⟩ := hrel
                clear HST hbm
                by_cases ht2 : t = 2
                · subst ht2
                  have HST := Lib.hid hst.next; clear hst
                  go_wp2
                  go_roundw
                  case rel => exact ⟨(k : Int) - 1, by omega, by omega, by go_num, HST.out, hbi⟩
                  case measure => simp [intOf]
                · have ht' : t < 2 := by omega
                  have hkw : k < wd := by omega
                  have hil : i ≤ a.length := by omega
                  obtain ⟨X, Y, C, hR, hL, hG, hYc, hXc, _⟩ := St.step HP.out hst ht' hil hkw
                  have cR1 : wr.cell? ⟨Rw, 1, none⟩ = some (.slice (some ⟨X 1, 0, none⟩) wd wd) := blk_cell hR 1
                  have cL0 : wr.cell? ⟨Bl, 0, none⟩ = some (.slice (some ⟨Y 0, 0, none⟩) wd wd) := blk_cell hL 0
                  have cL1 : wr.cell? ⟨Bl, 1, none⟩ = some (.slice (some ⟨Y 1, 0, none⟩) wd wd) := blk_cell hL 1
                  have htI : (t : Int) < 2 := by omega
                  have HST := Lib.hid hst
                  have HYC := Lib.hid hYc
                  have HXC := Lib.hid hXc
                  have HGET := Lib.hid (show oT g a b i k t = (optC g (a.drop i) (b.drop k) t).1 ∧ cT g a b i k t = (optC g (a.drop i) (b.drop k) t).2 from ⟨rfl, rfl⟩)
                  have hopb : 0 ≤ opn g t ∧ opn g t ≤ 1000 := by unfold opn; split <;> omega
                  have hop : g * (1 - (t : Int)) = opn g t := by
                    unfold opn
                    match t, ht' with
                    | 0, _ => simp
                    | 1, _ => simp
                  clear hYc hXc hR hL hG hst
                  by_cases hiN : i = a.length
                  · have hia : ((i : Int) == (a.length : Int)) = true := by simp [hiN]
                    obtain ⟨x, cx0, hset⟩ := set_st HP.out HST.out ht' hil hkw hPb
                    have HSET := Lib.hid hset
                    clear hset
                    by_cases hkM : k = b.length
                    · have hkl : b.length ≤ k := by omega
                      have HV := Lib.hid (show oT g a b i k t = 0 ∧ cT g a b i k t = 3 by rw [HGET.out.1, HGET.out.2, hiN, hkM, optC_end]; exact ⟨rfl, rfl⟩)
                      clear hiN hkM
                      go_wp2_with fail
                      refine (HSET.out _ 3 HV.out).mono ?_
                      rintro e w' ⟨rfl, hs', hb'⟩
                      have HS' := Lib.hid hs'
                      have HBN := Lib.hid (hbi.trans hb')
                      clear HSET cx0 cR1 cL0 cL1 hs' hb'
                      go_wp2
                      go_roundw
                      case rel => first | exact ⟨t + 1, by omega, by go_num, HS'.out, HBN.out⟩ | ((repeat apply Exists.intro); exact ⟨⟨t + 1, by omega, by go_num, HS'.out, HBN.out⟩, rfl⟩)
                      case measure => simp [intOf]; omega
                    · have hkl : k < b.length := by omega
                      have HV := Lib.hid (show oT g a b i k t = oT g a b i (k + 1) 1 - opn g t ∧ cT g a b i k t = 3 by rw [HGET.out.1, HGET.out.2, hiN, optC_nil g a b k t hkl]; exact ⟨rfl, rfl⟩)
                      have hbd := oT_bound g hg0 hg1 a b hwa hwb i (k + 1) 1
                      have cx := HXC.out 1 (by omega) (by omega)
                      have hkw1 : k + 1 < wd := by omega
                      have hk1I : ((k : Int) + 1) < (wd : Int) := by omega
                      clear hiN hkM
                      go_wp2_with fail
                      refine (HSET.out _ 3 HV.out).mono ?_
                      rintro e w' ⟨rfl, hs', hb'⟩
                      have HS' := Lib.hid hs'
                      have HBN := Lib.hid (hbi.trans hb')
                      clear HSET cx0 cR1 cL0 cL1 cx hs' hb'
                      go_wp2
                      go_roundw
                      case rel => first | exact ⟨t + 1, by omega, by go_num, HS'.out, HBN.out⟩ | ((repeat apply Exists.intro); exact ⟨⟨t + 1, by omega, by go_num, HS'.out, HBN.out⟩, rfl⟩)
                      case measure => simp [intOf]; omega
                  · have hia : ((i : Int) == (a.length : Int)) = false := by rw [beq_eq_false_iff_ne]; omega
                    have hiN' : i < a.length := by omega
                    have cy1 := HYC.out hiN' 1 k (by omega) hkw
                    have hbd1 := oT_bound g hg0 hg1 a b hwa hwb (i + 1) k 1
                    by_cases hkM : k = b.length
                    · have hkl : b.length ≤ k := by omega
                      have HV := Lib.hid (show oT g a b i k t = oT g a b (i + 1) k 1 - opn g t ∧ cT g a b i k t = 2 by rw [HGET.out.1, HGET.out.2, hkM, optC_left g a b i t hiN']; exact ⟨rfl, rfl⟩)
                      obtain ⟨x, cx0, hset⟩ := set_st HP.out HST.out ht' hil hkw hPb
                      have HSET := Lib.hid hset
                      clear hset hiN hkM
                      go_wp2_with fail
                      refine (HSET.out _ 2 HV.out).mono ?_
                      rintro e w' ⟨rfl, hs', hb'⟩
                      have HS' := Lib.hid hs'
                      have HBN := Lib.hid (hbi.trans hb')
                      clear HSET cx0 cR1 cL0 cL1 cy1 hs' hb'
                      go_wp2
                      go_roundw
                      case rel => first | exact ⟨t + 1, by omega, by go_num, HS'.out, HBN.out⟩ | ((repeat apply Exists.intro); exact ⟨⟨t + 1, by omega, by go_num, HS'.out, HBN.out⟩, rfl⟩)
                      case measure => simp [intOf]; omega
                    · have hkl : k < b.length := by omega
                      have hkw1 : k + 1 < wd := by omega
                      have hk1I : ((k : Int) + 1) < (wd : Int) := by omega
                      have hwk1 : IntKind.i64.wrap ((k : Int) + 1) = (k : Int) + 1 := IntWalk.i64_in _ (by omega)
                      have hk10 : 0 ≤ (k : Int) + 1 := by omega
                      have hk1n : ((k : Int) + 1).toNat = k + 1 := by omega
                      have hb0 : Below w.heap.size w wr := hW1b.trans (hbi.mono (by omega))
                      obtain ⟨b1, o1, rfl, hbB1, g11, g12⟩ := (HA.below hb0) i hiN'
                      obtain ⟨b2, o2, rfl, hbB2, g21, g22⟩ := (HB.below hb0) k hkl
                      have hwa' := hwa a[i] (by simp)
                      have hwb' := hwb b[k] (by simp)
                      have cx := HXC.out 1 (by omega) hkw1
                      have cy0 := HYC.out hiN' 0 (k + 1) (by omega) hkw1
                      have hbd2 := oT_bound g hg0 hg1 a b hwa hwb i (k + 1) 1
                      have hbd3 := oT_bound g hg0 hg1 a b hwa hwb (i + 1) (k + 1) 0
                      obtain ⟨mn, hmn⟩ : ∃ mn, mn = min a[i].2 b[k].2 := ⟨_, rfl⟩
                      have hmnb : 1 ≤ mn ∧ mn ≤ 1000 := by rw [hmn, Int.min_def]; split <;> omega
                      obtain ⟨m2, hm2⟩ : ∃ m2, m2 = oT g a b (i + 1) (k + 1) 0 + mn := ⟨_, rfl⟩
                      have hws : IntKind.i64.wrap (oT g a b (i + 1) (k + 1) 0 + mn) = m2 := by rw [hm2]; exact IntWalk.i64_in _ (by omega)
                      have hm2b : -1000 ≤ m2 ∧ m2 ≤ 3000000 := by omega
                      obtain ⟨n0, hn0⟩ : ∃ n0, n0 = oT g a b (i + 1) k 1 - opn g t := ⟨_, rfl⟩
                      obtain ⟨m1, hm1⟩ : ∃ m1, m1 = oT g a b i (k + 1) 1 - opn g t := ⟨_, rfl⟩
                      have HV := Lib.hid (show (oT g a b i k t, cT g a b i k t) = best3 n0 m1 (a[i].1 == b[k].1) m2 by
                        rw [HGET.out.1, HGET.out.2, optC_both g a b i k t hiN' hkl, hm2, hmn, hn0, hm1])
                      have hN0 := hn0.symm
                      have hM1 := hm1.symm
                      have HMN := Lib.hid hmn
                      have l1 := World.block_lt_of_cell? _ _ cy0
                      have l2 := World.block_lt_of_cell? _ _ cL0
                      clear hiN hkM hmn hm2 hn0 hm1
                      have finish : Hid (∀ (W w' : World), Below wr.heap.size wr W → Below G W w' → Below G W1 w') := Lib.hid fun W w' h1 h2 => hbi.trans ((h1.mono (by have := hbi.size; omega)).trans h2)
                      by_cases hlt : n0 < m1
                      · go_wp2_with fail
                        go_region_held3 (fun w' => w'.cell? ⟨Bl, 0, none⟩ = some (.slice (some ⟨Y 0, 0, none⟩) wd wd) ∧ w'.cell? ⟨Y 0, k + 1, none⟩ = some (.int .i64 (oT g a b (i + 1) (k + 1) 0)) ∧ w'.cell? ⟨b1, o1 + i * 2, none⟩ = some (.int .i64 a[i].1) ∧ w'.cell? ⟨b1, o1 + i * 2 + 1, none⟩ = some (.int .i64 a[i].2) ∧ w'.cell? ⟨b2, o2 + k * 2, none⟩ = some (.int .i64 b[k].1) ∧ w'.cell? ⟨b2, o2 + k * 2 + 1, none⟩ = some (.int .i64 b[k].2))
                          (first
                            | go_keep
                            | (go_split_ands
                               refine ⟨?_, ?_, ?_, ?_, ?_, ?_⟩ <;> exact cell_over (by assumption) hb1))
                          (first | (go_at_call 41; refine (weight_any a[i] b[k] _).mono ?_; rintro e w1 ⟨rfl, hb1⟩; rw [← HMN.out]))
                        rename_i hHeld
                        obtain ⟨_, _, ka, _, kb, _⟩ := hHeld
                        have hb1' : Below wr.heap.size wr w1 := ((Below.refl _ wr).drew).trans hb1
                        clear cR1 cL0 cL1 cy1 cx cy0 g11 g12 g21 g22 hN0 hM1
                        by_cases hke : a[i].1 = b[k].1
                        · by_cases hge : m1 ≤ m2
                          · have HV2 := Lib.hid (show oT g a b i k t = m2 ∧ cT g a b i k t = 1 by
                              have := HV.out
                              rw [best3, if_pos ⟨by simp [hke], by rw [if_pos (show n0 < m1 by omega)]; exact hge⟩] at this
                              exact ⟨congrArg Prod.fst this, congrArg Prod.snd this⟩)
                            go_wp2
                            go_quiet (fail)
                            have hb2 : Below wr.heap.size wr (w1.drewN nq) := below_drewN hb1' nq
                            obtain ⟨x, cx0, hset⟩ := set_st HP.out (HST.out.over hb2) ht' hil hkw hPb
                            have HSET := Lib.hid hset
                            clear hset
                            go_wp2_with fail
                            refine (HSET.out _ _ HV2.out).mono ?_
                            rintro e w' ⟨rfl, hs', hb'⟩
                            have HS' := Lib.hid hs'
                            have HBN := Lib.hid (finish.out _ _ hb2 hb')
                            clear HSET cx0 hs' hb'
                            go_wp2
                            go_roundw
                            case rel => first | exact ⟨t + 1, by omega, by go_num, HS'.out, HBN.out⟩ | ((repeat apply Exists.intro); exact ⟨⟨t + 1, by omega, by go_num, HS'.out, HBN.out⟩, rfl⟩)
                            case measure => simp [intOf]; omega
                          · have HV2 := Lib.hid (show oT g a b i k t = m1 ∧ cT g a b i k t = 3 by
                              have := HV.out
                              rw [best3, if_neg (by rintro ⟨_, h⟩; rw [if_pos (show n0 < m1 by omega)] at h; exact hge h), if_pos (show n0 < m1 by omega)] at this
                              exact ⟨congrArg Prod.fst this, congrArg Prod.snd this⟩)
                            go_wp2
                            go_quiet (fail)
                            have hb2 : Below wr.heap.size wr (w1.drewN nq) := below_drewN hb1' nq
                            obtain ⟨x, cx0, hset⟩ := set_st HP.out (HST.out.over hb2) ht' hil hkw hPb
                            have HSET := Lib.hid hset
                            clear hset
                            go_wp2_with fail
                            refine (HSET.out _ _ HV2.out).mono ?_
                            rintro e w' ⟨rfl, hs', hb'⟩
                            have HS' := Lib.hid hs'
                            have HBN := Lib.hid (finish.out _ _ hb2 hb')
                            clear HSET cx0 hs' hb'
                            go_wp2
                            go_roundw
                            case rel => first | exact ⟨t + 1, by omega, by go_num, HS'.out, HBN.out⟩ | ((repeat apply Exists.intro); exact ⟨⟨t + 1, by omega, by go_num, HS'.out, HBN.out⟩, rfl⟩)
                            case measure => simp [intOf]; omega
                        · have hkf : (a[i].1 == b[k].1) = false := by simpa using hke
                          have HV2 := Lib.hid (show oT g a b i k t = m1 ∧ cT g a b i k t = 3 by
                            have := HV.out
                            rw [best3, if_neg (by rintro ⟨h, _⟩; rw [hkf] at h; exact absurd h (by decide)), if_pos (show n0 < m1 by omega)] at this
                            exact ⟨congrArg Prod.fst this, congrArg Prod.snd this⟩)
                          go_wp2
                          go_quiet (fail)
                          have hb2 : Below wr.heap.size wr (w1.drewN nq) := below_drewN hb1' nq
                          obtain ⟨x, cx0, hset⟩ := set_st HP.out (HST.out.over hb2) ht' hil hkw hPb
                          have HSET := Lib.hid hset
                          clear hset
                          go_wp2_with fail
                          refine (HSET.out _ _ HV2.out).mono ?_
                          rintro e w' ⟨rfl, hs', hb'⟩
                          have HS' := Lib.hid hs'
                          have HBN := Lib.hid (finish.out _ _ hb2 hb')
                          clear HSET cx0 hs' hb'
                          go_wp2
                          go_roundw
                          case rel => first | exact ⟨t + 1, by omega, by go_num, HS'.out, HBN.out⟩ | ((repeat apply Exists.intro); exact ⟨⟨t + 1, by omega, by go_num, HS'.out, HBN.out⟩, rfl⟩)
                          case measure => simp [intOf]; omega
                      · go_wp2_with fail
                        go_region_held3 (fun w' => w'.cell? ⟨Bl, 0, none⟩ = some (.slice (some ⟨Y 0, 0, none⟩) wd wd) ∧ w'.cell? ⟨Y 0, k + 1, none⟩ = some (.int .i64 (oT g a b (i + 1) (k + 1) 0)) ∧ w'.cell? ⟨b1, o1 + i * 2, none⟩ = some (.int .i64 a[i].1) ∧ w'.cell? ⟨b1, o1 + i * 2 + 1, none⟩ = some (.int .i64 a[i].2) ∧ w'.cell? ⟨b2, o2 + k * 2, none⟩ = some (.int .i64 b[k].1) ∧ w'.cell? ⟨b2, o2 + k * 2 + 1, none⟩ = some (.int .i64 b[k].2))
                          (first
                            | go_keep
                            | (go_split_ands
                               refine ⟨?_, ?_, ?_, ?_, ?_, ?_⟩ <;> exact cell_over (by assumption) hb1))
                          (first | (go_at_call 41; refine (weight_any a[i] b[k] _).mono ?_; rintro e w1 ⟨rfl, hb1⟩; rw [← HMN.out]))
                        rename_i hHeld
                        obtain ⟨_, _, ka, _, kb, _⟩ := hHeld
                        have hb1' : Below wr.heap.size wr w1 := ((Below.refl _ wr).drew).trans hb1
                        clear cR1 cL0 cL1 cy1 cx cy0 g11 g12 g21 g22 hN0 hM1
                        by_cases hke : a[i].1 = b[k].1
                        · by_cases hge : n0 ≤ m2
                          · have HV2 := Lib.hid (show oT g a b i k t = m2 ∧ cT g a b i k t = 1 by
                              have := HV.out
                              rw [best3, if_pos ⟨by simp [hke], by rw [if_neg (show ¬ n0 < m1 by omega)]; exact hge⟩] at this
                              exact ⟨congrArg Prod.fst this, congrArg Prod.snd this⟩)
                            go_wp2
                            go_quiet (fail)
                            have hb2 : Below wr.heap.size wr (w1.drewN nq) := below_drewN hb1' nq
                            obtain ⟨x, cx0, hset⟩ := set_st HP.out (HST.out.over hb2) ht' hil hkw hPb
                            have HSET := Lib.hid hset
                            clear hset
                            go_wp2_with fail
                            refine (HSET.out _ _ HV2.out).mono ?_
                            rintro e w' ⟨rfl, hs', hb'⟩
                            have HS' := Lib.hid hs'
                            have HBN := Lib.hid (finish.out _ _ hb2 hb')
                            clear HSET cx0 hs' hb'
                            go_wp2
                            go_roundw
                            case rel => first | exact ⟨t + 1, by omega, by go_num, HS'.out, HBN.out⟩ | ((repeat apply Exists.intro); exact ⟨⟨t + 1, by omega, by go_num, HS'.out, HBN.out⟩, rfl⟩)
                            case measure => simp [intOf]; omega
                          · have HV2 := Lib.hid (show oT g a b i k t = n0 ∧ cT g a b i k t = 2 by
                              have := HV.out
                              rw [best3, if_neg (by rintro ⟨_, h⟩; rw [if_neg (show ¬ n0 < m1 by omega)] at h; exact hge h), if_neg (show ¬ n0 < m1 by omega)] at this
                              exact ⟨congrArg Prod.fst this, congrArg Prod.snd this⟩)
                            go_wp2
                            go_quiet (fail)
                            have hb2 : Below wr.heap.size wr (w1.drewN nq) := below_drewN hb1' nq
                            obtain ⟨x, cx0, hset⟩ := set_st HP.out (HST.out.over hb2) ht' hil hkw hPb
                            have HSET := Lib.hid hset
                            clear hset
                            go_wp2_with fail
                            refine (HSET.out _ _ HV2.out).mono ?_
                            rintro e w' ⟨rfl, hs', hb'⟩
                            have HS' := Lib.hid hs'
                            have HBN := Lib.hid (finish.out _ _ hb2 hb')
                            clear HSET cx0 hs' hb'
                            go_wp2
                            go_roundw
                            case rel => first | exact ⟨t + 1, by omega, by go_num, HS'.out, HBN.out⟩ | ((repeat apply Exists.intro); exact ⟨⟨t + 1, by omega, by go_num, HS'.out, HBN.out⟩, rfl⟩)
                            case measure => simp [intOf]; omega
                        · have hkf : (a[i].1 == b[k].1) = false := by simpa using hke
                          have HV2 := Lib.hid (show oT g a b i k t = n0 ∧ cT g a b i k t = 2 by
                            have := HV.out
                            rw [best3, if_neg (by rintro ⟨h, _⟩; rw [hkf] at h; exact absurd h (by decide)), if_neg (show ¬ n0 < m1 by omega)] at this
                            exact ⟨congrArg Prod.fst this, congrArg Prod.snd this⟩)
                          go_wp2
                          go_quiet (fail)
                          have hb2 : Below wr.heap.size wr (w1.drewN nq) := below_drewN hb1' nq
                          obtain ⟨x, cx0, hset⟩ := set_st HP.out (HST.out.over hb2) ht' hil hkw hPb
                          have HSET := Lib.hid hset
                          clear hset
                          go_wp2_with fail
                          refine (HSET.out _ _ HV2.out).mono ?_
                          rintro e w' ⟨rfl, hs', hb'⟩
                          have HS' := Lib.hid hs'
                          have HBN := Lib.hid (finish.out _ _ hb2 hb')
                          clear HSET cx0 hs' hb'
                          go_wp2
                          go_roundw
                          case rel => first | exact ⟨t + 1, by omega, by go_num, HS'.out, HBN.out⟩ | ((repeat apply Exists.intro); exact ⟨⟨t + 1, by omega, by go_num, HS'.out, HBN.out⟩, rfl⟩)
                          case measure => simp [intOf]; omega
end Go.Proofs.Ytbpegoekjlehcaa
