/- Walk: the model's table is filled. -/
import Derived.Test.YtbpegoekjlehcaaT2
import Derived.Deep.RegionHeld3
import Derived.Deep.AppendLies
import Derived.StillTailTactics
import Derived.Deep.RegionLaw
namespace Go.Proofs.Ytbpegoekjlehcaa
open Go.RowKit

/-- What lies at an address, in the words of a cell's fact. -/
def cellv (w : World) (p : Addr) : Value := (w.cell? p).getD (.int .i64 0)
theorem cellv_of {w : World} {p : Addr} {v : Value} (h : w.cell? p = some v) : w.cell? p = some (cellv w p) := by unfold cellv; rw [h]; rfl
theorem keep_store {w : World} {p q r : Addr} {u v x y : Value} (h1 : w.cell? q = some u) (h2 : w.cell? r = some v) (h3 : w.frozen? p = false) (h4 : w.cell? p = some x) (n1 : q.block ≠ p.block) (n2 : r.block ≠ p.block) :
    (w.setCell p y).cell? q = some u ∧ (w.setCell p y).cell? r = some v ∧ (w.setCell p y).frozen? p = false ∧ (w.setCell p y).cell? p = some (cellv (w.setCell p y) p) := by
  refine ⟨(World.cell?_setCell_other _ _ _ _ fun e => n1 (by rw [e])).trans h1, (World.cell?_setCell_other _ _ _ _ fun e => n2 (by rw [e])).trans h2, ?_, cellv_of (v := y) ?_⟩
  · rw [World.frozen?_setCell]; exact h3
  · exact World.cell?_setCell_same _ _ _ h4

theorem TokAt.alike {w w' : World} {B : Nat} {A : Option Addr} {l : List Tok} (h : TokAt w B A l) (e : ∀ p, w'.cell? p = w.cell? p) : TokAt w' B A l := by
  intro k hk
  obtain ⟨b, o, rfl, hbB, h1, h2⟩ := h k hk
  exact ⟨b, o, rfl, hbB, (e _).trans h1, (e _).trans h2⟩

theorem kg_alloc {w : World} {p : Addr} {v : Value} (h : w.cell? p = some v) (f : w.frozen? p = false) (o : Obj) : (w.alloc o).cell? p = some v ∧ (w.alloc o).frozen? p = false :=
  ⟨(World.cell?_of_block (Below.heap_alloc _ _ _ (World.block_lt_of_cell? _ _ h))).trans h, (World.frozen?_of_block (Below.heap_alloc _ _ _ (World.block_lt_of_cell? _ _ h))).trans f⟩
theorem kg_grown {w w' : World} {p : Addr} {v u : Value} (h : w.cell? p = some v) (f : w.frozen? p = false) (hg : w.grownBy w' u.ownBlock) (hne : u.ownBlock ≠ some p.block) : w'.cell? p = some v ∧ w'.frozen? p = false :=
  ⟨(hg.cell_far _ (World.block_lt_of_cell? _ _ h) (Ne.symm hne)).trans h, (hg.frozen_far _ (World.block_lt_of_cell? _ _ h) (Ne.symm hne)).trans f⟩

theorem kg_two {w w' : World} {p : Addr} {v u : Value} {o1 o2 : Obj} (h : w.cell? p = some v) (f : w.frozen? p = false) (hg : (((w.alloc o1).alloc o2).drew).grownBy w' u.ownBlock) (hne : u.ownBlock ≠ some p.block) : w'.cell? p = some v ∧ w'.frozen? p = false := by
  obtain ⟨h1, f1⟩ := kg_alloc h f o1
  obtain ⟨h2, f2⟩ := kg_alloc h1 f1 o2
  exact kg_grown (w := ((w.alloc o1).alloc o2).drew) h2 f2 hg hne

set_option maxRecDepth 100000 in
set_option maxHeartbeats 4000000 in
theorem fill_any (va vb : Value) (a b : List Tok) (g : Int) (w : World) (ha : Toks w w.heap.size va a) (hb : Toks w w.heap.size vb b)
    (hwa : WOk a) (hwb : WOk b) (hal : a.length ≤ 2048) (hbl : b.length ≤ 2048) (hg0 : 0 ≤ g) (hg1 : g ≤ 1000) :
    Calls Try.prog 35 #[va, vb, .int .i64 g] w fun e w' => ∃ v, e = .returned v ∧ Filled g a b w' va vb v ∧ Below w.heap.size w w' := by
  obtain ⟨A, c, rfl, hn, hc, HA⟩ := ha.tok
  obtain ⟨A', c', rfl, hn', hc', HB⟩ := hb.tok
  clear ha hb
  obtain ⟨wd, hwd⟩ : ∃ wd : Nat, wd = b.length + 1 := ⟨_, rfl⟩
  obtain ⟨n, hnn⟩ : ∃ n : Nat, n = a.length + 1 := ⟨_, rfl⟩
  have hwdb : wd ≤ 2049 := by omega
  have hww : IntKind.i64.wrap ((b.length : Int) + 1) = (b.length : Int) + 1 := IntWalk.i64_in _ (by omega)
  have hmk : ∀ W, (Instr.makeSlice 73 (.int .i64 ((b.length : Int) + 1)) (.int .i64 ((b.length : Int) + 1))).run Try.prog W = .ok (.slice (some ⟨W.heap.size, 0, none⟩) wd wd) (W.alloc (.cells (madeCells #[.int .i64 0, .int .i64 0] (wd * 2)) 72)) := by
    intro W
    have := run_make_two wd (by omega) W
    rwa [show (wd : Int) = (b.length : Int) + 1 by omega] at this
  obtain ⟨i0, hi, hz0, hz1, hz2⟩ := info_parts info73
  have hnb : n ≤ 2049 := by omega
  have HWD := Lib.hid hwd
  have HNN := Lib.hid hnn
  clear hwd hnn
  obtain ⟨W1, hW1⟩ : ∃ W1 : World, W1 = w.alloc (.cells #[.slice A a.length c, .slice A' b.length c', .int .i64 g, .slice none 0 0] 76) := ⟨_, rfl⟩
  have hW1b : Below w.heap.size w W1 := by rw [hW1]; exact (Below.refl _ _).alloc (by omega) _
  have hMk : Mk W1 w.heap.size w.heap.size wd (.slice A a.length c) (.slice A' b.length c') g (.slice none 0 0) [] := by
    refine ⟨Nat.le_refl _, ?_, Own.nil _ _, by simp, by simp⟩
    rw [hW1]; exact heap_alloc_new _ _
  have HW1 := Lib.hid hW1
  clear hW1
  go_enter Try.func35, Try.ntmps35
  go_wp2_with fail
  rw [← HW1.out]
  go_loopw [8] (fun iv wr => ∃ (k : Nat) (v : Value) (rs : List Nat), k ≤ n ∧ iv = .int .i64 k ∧ rs.length = k ∧ Mk wr w.heap.size w.heap.size wd (.slice A a.length c) (.slice A' b.length c') g v rs ∧ Below w.heap.size w wr) (fun iv _ => n - (intOf iv).toNat)
  case atStart => exact ⟨0, _, [], by omega, rfl, rfl, hMk, hW1b⟩
  case round =>
    clear hMk
    obtain ⟨k, v, rs, hk, rfl, hrs, hmkk, hbr⟩ := hrel
    have hbz := hbr.size
    by_cases hlt : k < n
    · have hle : k ≤ a.length := by have := HNN.out; omega
      have c3 : wr.cell? ⟨w.heap.size, 3, none⟩ = some v := blk_cell hmkk.2.1 3
      have f3 := blk_free hmkk.2.1 3
      have hown : wr.ownsRow w.heap.size 73 1 v rs.length (rs.flatMap (encR wd)) := hmkk.2.2.1
      have hne := ownBlock_ne hown hmkk.2.1 (by decide)
      have hBl := lt_of_block hmkk.2.1
      have HM := Lib.hid hmkk
      clear hmkk
      go_wp2_with fail
      go_region_law
        ((refine step_append_lies _ (by rfl) _ _ _ (by rfl) w.heap.size 73 i0 _ 1 24 Try.underlying74 hi hz0 hz1 hz2 rfl (by omega) v rs.length _ (by rfl) (((World.ownsRow.alloc (World.ownsRow.alloc hown _) _)).drew)
            ⟨wr.heap.size + 1, 0, none⟩ 1 1 [.slice (some ⟨wr.heap.size, 0, none⟩) wd wd] (by rfl) (by rfl) (World.news_of_block (cs := #[.slice (some ⟨wr.heap.size, 0, none⟩) wd wd]) (t := 73) (fr := (0, 0)) (heap_alloc_new' _ _ (by simp))) (by simp [Value.oneCell'])
            (by omega) (by unfold maxLen; omega) (by omega) (by simp; omega) (wr.heap.size + 2) (by simp) ?_; intro gg cap w1 hown1 hgrow hat hlt; obtain ⟨k3, q3⟩ := kg_two c3 f3 hgrow hne))
      all_goals
        obtain ⟨R1, R2⟩ := HM.out.push2 hbz hbr hown1 hgrow
        clear k3 q3 hown1 hgrow hat hlt
        subst hrs
        go_wp2
        go_roundw
        case rel => exact ⟨rs.length + 1, _, rs ++ [wr.heap.size], by omega, by go_num, by simp, R1, R2⟩
        case measure => simp [intOf]; omega
    · have hkn : k = n := by omega
      obtain ⟨F, cap, R, rfl, htb⟩ := hmkk.tb (hrs.trans hkn) (by have := HNN.out; omega)
      have HST := Lib.hid (TS.start (a := a) (b := b) HNN.out HWD.out htb)
      have hna : ¬ k ≤ a.length := by have := HNN.out; omega
      have hBl := lt_of_block hmkk.2.1
      clear hmkk htb hrs
      go_wp2
      obtain ⟨wo, hwo⟩ : ∃ wo : World, wo = wr := ⟨_, rfl⟩
      rw [← hwo] at HST hbr ⊢
      clear hwo
      go_loopw [9] (fun iv wr => ∃ D : Nat, D ≤ n ∧ iv = .int .i64 ((D : Int) - 1) ∧ TS g a b wr w.heap.size w.heap.size F wd n cap (.slice A a.length c) (.slice A' b.length c') R D (b.length : Int) 0 ∧ Below w.heap.size w wr) (fun iv _ => (intOf iv + 1).toNat)
      case atStart => exact ⟨n, by omega, by have := HNN.out; go_num, HST.out, hbr⟩
      case round =>
        clear HST hbr hbz
        obtain ⟨D, hD, rfl, hst, hbo⟩ := hrel
        have HST := Lib.hid hst; clear hst
        by_cases hD0 : D = 0
        · subst hD0
          have hneg : (((0 : Nat) : Int) - 1) = -1 := by omega
          rw [hneg]
          clear hneg
          go_wp2
          go_ret
          exact ⟨_, rfl, HST.out.fin HNN.out HWD.out, hbo⟩
        · obtain ⟨i, hi⟩ : ∃ i, D = i + 1 := ⟨D - 1, by omega⟩
          subst hi
          have hcast : ((i + 1 : Nat) : Int) - 1 = (i : Int) := by omega
          rw [hcast]
          clear hcast
          go_wp2
          obtain ⟨wm, hwm⟩ : ∃ wm : World, wm = wr := ⟨_, rfl⟩
          rw [← hwm] at HST hbo ⊢
          clear hwm
          go_loopw [10] (fun kv wr => ∃ K : Int, -1 ≤ K ∧ K ≤ b.length ∧ kv = .int .i64 K ∧ TS g a b wr w.heap.size w.heap.size F wd n cap (.slice A a.length c) (.slice A' b.length c') R (i + 1) K 0 ∧ Below w.heap.size w wr) (fun kv _ => (intOf kv + 1).toNat)
          case atStart => exact ⟨b.length, by omega, by omega, rfl, HST.out, hbo⟩
          case round =>
            clear HST hbo
            obtain ⟨K, hK1, hK2, rfl, hst, hbm⟩ := hrel
            have HST := Lib.hid hst; clear hst
            by_cases hK0 : K = -1
            · subst hK0
              go_wp2
              go_roundw
              case rel => exact ⟨i, by omega, by go_num, HST.out.down HWD.out, hbm⟩
              case measure => simp [intOf]
            · obtain ⟨k, hk⟩ : ∃ k : Nat, K = (k : Int) := ⟨K.toNat, by omega⟩
              subst hk
              clear hK1 hK0
              go_wp2
              obtain ⟨wi, hwi⟩ : ∃ wi : World, wi = wr := ⟨_, rfl⟩
              rw [← hwi] at HST hbm ⊢
              clear hwi
              go_loopw [11] (fun sv wr => ∃ t : Nat, t ≤ 2 ∧ sv = .int .i64 t ∧ TS g a b wr w.heap.size w.heap.size F wd n cap (.slice A a.length c) (.slice A' b.length c') R (i + 1) (k : Int) t ∧ Below w.heap.size w wr) (fun sv _ => (2 - intOf sv).toNat)
              case atStart => exact ⟨0, by omega, rfl, HST.out, hbm⟩
              case round =>
                clear HST hbm
                obtain ⟨t, ht, rfl, hst, hbi⟩ := hrel
                have HST := Lib.hid hst; clear hst
                have hil : i ≤ a.length := by have := HNN.out; omega
                have hkl : k ≤ b.length := by omega
                by_cases hgo : t < 2 ∧ i + k < a.length + b.length
                · obtain ⟨ht2, hik⟩ := hgo
                  obtain ⟨cF, ⟨x0, cx0⟩, fx, hBX, hGX, hFX⟩ := HST.out.place (i := i) (k := k) (s := t) HNN.out HWD.out hil hkl ht2
                  have c3 : wr.cell? ⟨w.heap.size, 3, none⟩ = some (.slice (some ⟨F, 0, none⟩) n cap) := blk_cell HST.out.tab 3
                  have HCM : Hid (∀ W : World, Hid (TS g a b W w.heap.size w.heap.size F wd n cap (.slice A a.length c) (.slice A' b.length c') R (i + 1) (k : Int) t) → Hid (Below w.heap.size w W) → Calls Try.prog 36 #[.pointer (some ⟨w.heap.size, 0, none⟩), .int .i64 i, .int .i64 k] W fun e w' => e = .returned (.int .i64 (mT g a b i k)) ∧ ∃ m, w' = W.drewN m) :=
                    Lib.hid fun W hT hb => by
                      obtain ⟨m1, m2, m3⟩ := hT.out.reads HNN.out HWD.out hil hkl
                      have hG := hT.out.tab
                      exact match_any g a b W w.heap.size w.heap.size F wd n cap c c' A A' i k (blk_cell hG 0) (blk_cell hG 1) (blk_cell hG 3) (HA.below hb.out) (HB.below hb.out) HNN.out HWD.out hal hbl hwa hwb hg0 hg1 hil hkl m1
                  have HCL : Hid (∀ W : World, Hid (TS g a b W w.heap.size w.heap.size F wd n cap (.slice A a.length c) (.slice A' b.length c') R (i + 1) (k : Int) t) → Hid (Below w.heap.size w W) → Calls Try.prog 37 #[.pointer (some ⟨w.heap.size, 0, none⟩), .int .i64 i, .int .i64 k, .int .i64 t] W fun e w' => e = .returned (.int .i64 (lT g a b i k t)) ∧ ∃ m, w' = W.drewN m) :=
                    Lib.hid fun W hT hb => by
                      obtain ⟨m1, m2, m3⟩ := hT.out.reads HNN.out HWD.out hil hkl
                      have hG := hT.out.tab
                      exact left_any g a b W w.heap.size F wd n cap c A i k t (blk_cell hG 0) (blk_cell hG 2) (blk_cell hG 3) HNN.out HWD.out hal hbl hwa hwb hg0 hg1 hil hkl ht2 m2
                  have HCR : Hid (∀ W : World, Hid (TS g a b W w.heap.size w.heap.size F wd n cap (.slice A a.length c) (.slice A' b.length c') R (i + 1) (k : Int) t) → Hid (Below w.heap.size w W) → Calls Try.prog 43 #[.pointer (some ⟨w.heap.size, 0, none⟩), .int .i64 i, .int .i64 k, .int .i64 t] W fun e w' => e = .returned (.int .i64 (rT g a b i k t)) ∧ ∃ m, w' = W.drewN m) :=
                    Lib.hid fun W hT hb => by
                      obtain ⟨m1, m2, m3⟩ := hT.out.reads HNN.out HWD.out hil hkl
                      have hG := hT.out.tab
                      exact right_any g a b W w.heap.size F wd n cap c' A' i k t (blk_cell hG 1) (blk_cell hG 2) (blk_cell hG 3) HNN.out HWD.out hal hbl hwa hwb hg0 hg1 hil hkl ht2 m3
                  have HV := Lib.hid (tab_step hg0 hg1 hwa hwb t hil hkl hik)
                  have HBI := Lib.hid hbi
                  have HPUT : Hid (∀ (W : World) (x : Int), Hid (TS g a b W w.heap.size w.heap.size F wd n cap (.slice A a.length c) (.slice A' b.length c') R (i + 1) (k : Int) t) → Hid (TS g a b (W.setCell ⟨R i, k * 2 + t, none⟩ (.int .i64 x)) w.heap.size w.heap.size F wd n cap (.slice A a.length c) (.slice A' b.length c') R (i + 1) (k : Int) t)) := Lib.hid fun W x hT => Lib.hid (hT.out.put HNN.out HWD.out ht2 hil hik x)
                  have HBP : Hid (∀ (W : World) (x : Value), Hid (Below w.heap.size w W) → Hid (Below w.heap.size w (W.setCell ⟨R i, k * 2 + t, none⟩ x))) := Lib.hid fun W x hT => Lib.hid (hT.out.setCell hBX x)
                  have HTD : Hid (∀ (W : World) (m : Nat), Hid (TS g a b W w.heap.size w.heap.size F wd n cap (.slice A a.length c) (.slice A' b.length c') R (i + 1) (k : Int) t) → Hid (TS g a b (W.drewN m) w.heap.size w.heap.size F wd n cap (.slice A a.length c) (.slice A' b.length c') R (i + 1) (k : Int) t)) := Lib.hid fun W m hT => Lib.hid (hT.out.over (below_drewN (Below.refl _ _) m))
                  have HBD : Hid (∀ (W : World) (m : Nat), Hid (Below w.heap.size w W) → Hid (Below w.heap.size w (W.drewN m))) := Lib.hid fun W m hT => Lib.hid (below_drewN hT.out m)
                  have HGR : Hid (∀ (W : World), Hid (TS g a b W w.heap.size w.heap.size F wd n cap (.slice A a.length c) (.slice A' b.length c') R (i + 1) (k : Int) t) → W.cell? ⟨R i, k * 2 + t, none⟩ = some (.int .i64 (oT g a b i k t)) → TS g a b W w.heap.size w.heap.size F wd n cap (.slice A a.length c) (.slice A' b.length c') R (i + 1) (k : Int) (t + 1)) := Lib.hid fun W hT hx => hT.out.grow HNN.out HWD.out ht2 hil hkl hx
                  have hiI : (i : Int) < (n : Int) := by omega
                  have hkI : (k : Int) < (wd : Int) := by have := HWD.out; omega
                  have htI : (t : Int) < 2 := by omega
                  have d1 : decide ((t : Int) < 2) = true := by simp; omega
                  have d2 : decide ((i : Int) + (k : Int) < (a.length : Int) + (b.length : Int)) = true := by simp; omega
                  have hv0 := cellv_of cx0
                  obtain ⟨X, hX⟩ : ∃ X, X = R i := ⟨_, rfl⟩
                  rw [← hX] at cF fx hBX hGX hFX hv0 HPUT HBP HGR
                  clear hX hik cx0 hbi
                  go_wp2_with fail
                  go_region_held3 (fun w' => w'.cell? ⟨w.heap.size, 3, none⟩ = some (.slice (some ⟨F, 0, none⟩) n cap) ∧ w'.cell? ⟨F, i, none⟩ = some (.slice (some ⟨X, 0, none⟩) wd wd) ∧ w'.frozen? ⟨X, k * 2 + t, none⟩ = false ∧ w'.cell? ⟨X, k * 2 + t, none⟩ = some (cellv w' ⟨X, k * 2 + t, none⟩) ∧
                      Hid (TS g a b w' w.heap.size w.heap.size F wd n cap (.slice A a.length c) (.slice A' b.length c') R (i + 1) (k : Int) t) ∧ Hid (Below w.heap.size w w'))
                    (first
                      | exact ⟨c3, cF, fx, hv0, HTD.out _ 1 HST, HBD.out _ 1 HBI⟩
                      | (go_split_ands
                         exact ⟨by assumption, by assumption, by assumption, by assumption, HTD.out _ _ (by assumption), HBD.out _ _ (by assumption)⟩)
                      | (go_split_ands
                         obtain ⟨e1, e2, e3, e4⟩ := keep_store (p := ⟨X, k * 2 + t, none⟩) (q := ⟨w.heap.size, 3, none⟩) (r := ⟨F, i, none⟩) (by assumption) (by assumption) (by assumption) (by assumption) hGX hFX
                         exact ⟨e1, e2, e3, e4, HPUT.out _ _ (by assumption), HBP.out _ _ (by assumption)⟩))
                    (first
                      | (go_at_call 36; go_split_ands; refine (HCM.out _ (by assumption) (by assumption)).mono ?_; rintro e w1 ⟨rfl, m, rfl⟩)
                      | (go_at_call 37; go_split_ands; refine (HCL.out _ (by assumption) (by assumption)).mono ?_; rintro e w1 ⟨rfl, m, rfl⟩)
                      | (go_at_call 43; go_split_ands; refine (HCR.out _ (by assumption) (by assumption)).mono ?_; rintro e w1 ⟨rfl, m, rfl⟩))
                  rename_i hHeld
                  have hE : (if mT g a b i k < (if lT g a b i k t < rT g a b i k t then rT g a b i k t else lT g a b i k t) then (if lT g a b i k t < rT g a b i k t then rT g a b i k t else lT g a b i k t) else mT g a b i k) = oT g a b i k t := by
                    rw [HV.out]; repeat' split
                    all_goals omega
                  rw [hE] at hHeld ⊢
                  obtain ⟨_, _, _, hx, hT, hB⟩ := hHeld
                  have HT1 := Lib.hid (HGR.out _ hT (hx.trans (congrArg some (setCell_val hx))))
                  clear hE hx hT HV HGR HBD HTD HBP HPUT HCM HCL HCR cF fx hv0 c3
                  go_wp2
                  all_goals
                    go_roundw
                    case rel => first | exact ⟨t + 1, by omega, by go_num, HT1.out, hB.out⟩ | ((repeat apply Exists.intro); exact ⟨⟨t + 1, by omega, by go_num, HT1.out, hB.out⟩, rfl⟩)
                    case measure => simp [intOf]; omega
                · have HN : Hid (TS g a b wr w.heap.size w.heap.size F wd n cap (.slice A a.length c) (.slice A' b.length c') R (i + 1) ((k : Int) - 1) 0) := Lib.hid (by
                    refine TS.next ?_
                    by_cases ht2 : t = 2
                    · rw [← ht2]; exact HST.out
                    · exact HST.out.skip (by omega) (by omega) HWD.out)
                  by_cases ht2 : t < 2
                  · have d1 : decide ((t : Int) < 2) = true := by simp; omega
                    have d2 : decide ((i : Int) + (k : Int) < (a.length : Int) + (b.length : Int)) = false := by simp; omega
                    clear HST
                    go_wp2
                    go_roundw
                    case rel => first | exact ⟨(k : Int) - 1, by omega, by omega, by go_num, HN.out, hbi⟩ | ((repeat apply Exists.intro); exact ⟨⟨(k : Int) - 1, by omega, by omega, by go_num, HN.out, hbi⟩, rfl⟩)
                    case measure => simp [intOf]
                  · have d1 : decide ((t : Int) < 2) = false := by simp; omega
                    clear HST
                    go_wp2
                    go_roundw
                    case rel => first | exact ⟨(k : Int) - 1, by omega, by omega, by go_num, HN.out, hbi⟩ | ((repeat apply Exists.intro); exact ⟨⟨(k : Int) - 1, by omega, by omega, by go_num, HN.out, hbi⟩, rfl⟩)
                    case measure => simp [intOf]
end Go.Proofs.Ytbpegoekjlehcaa
