/- Walks: styles found. -/
import Derived.Test.YtmhhcfceikcfbaaGreatDfP2
import Derived.Test.YtmhhcfceikcfbaaGreatDfV2
namespace Go.Proofs.YtmhhcfceikcfbaaGreat
open Go.RowKit
def eqS (a b : ByteArray) : Bool := decide (bytesN a = bytesN b)
theorem eqS_iff (a b : ByteArray) : eqS a b = true ↔ a = b := by
 unfold eqS
 rw [decide_eq_true_iff]
 exact ⟨bytesN_inj, fun h => by rw [h]⟩
theorem element202 (k : Int) (w : World) : Calls Tryz.prog 202 #[.int .i64 k] w (RetI (if k = 1 then 2 else 1) w) := by
 obtain ⟨V, hV⟩ : ∃ V : Int, V = if k = 1 then 2 else 1 := ⟨_, rfl⟩
 rw [← hV]
 by_cases h : k = 1
 ·have HV := Lib.hid (show V = 2 by rw [hV, if_pos h])
  subst h
  clear hV
  go_enter Tryz.func202, Tryz.ntmps202
  go_wp2_with fail
  go_ret
  exact ⟨by rw [HV.out]; rfl, Below.refl _ _⟩
 ·have b1 : (k == 1) = false := by rw [beq_eq_false_iff_ne]; exact h
  have HV := Lib.hid (show V = 1 by rw [hV, if_neg h])
  clear h hV
  go_enter Tryz.func202, Tryz.ntmps202
  go_wp2_with fail
  go_ret
  exact ⟨by rw [HV.out]; rfl, Below.refl _ _⟩
set_option maxRecDepth 100000 in
set_option maxHeartbeats 4000000 in
theorem clo213 (x0 x1 : Int) (x2 : ByteArray) (x3 x4 : Int) (pv : Value) (id : Int) (c : Nat) (w : World) (hc : w.cell? ⟨c, 0, none⟩ = some (.int .i64 id)) : Calls Tryz.prog 213 #[.agg #[.int .i64 x0, .int .i64 x1, .string x2, .int .i64 x3, .int .i64 x4, pv], .pointer (some ⟨c, 0, none⟩)] w (RetB (decide (x0 = id)) w) := by
 obtain ⟨V, hV⟩ : ∃ V, V = decide (x0 = id) := ⟨_, rfl⟩
 rw [← hV]
 have hcl := World.block_lt_of_cell? _ _ hc
 have hc2 : (w.alloc (.cells #[.int .i64 x0, .int .i64 x1, .string x2, .int .i64 x3, .int .i64 x4, pv] 107)).cell? ⟨c, 0, none⟩ = some (.int .i64 id) := (World.cell?_of_block (Below.heap_alloc _ _ _ hcl)).trans hc
 by_cases h : x0 = id
 ·have HV := Lib.hid (show V = true by rw [hV]; simpa using h)
  subst h
  clear hV
  go_enter Tryz.func213, Tryz.ntmps213
  go_wp2_with fail
  go_ret
  exact ⟨by rw [HV.out]; rfl, (Below.refl _ _).alloc (Nat.le_refl _) _⟩
 ·have b1 : (x0 == id) = false := by rw [beq_eq_false_iff_ne]; exact h
  have HV := Lib.hid (show V = false by rw [hV]; simpa using h)
  clear h hV
  go_enter Tryz.func213, Tryz.ntmps213
  go_wp2_with fail
  go_ret
  exact ⟨by rw [HV.out]; rfl, (Below.refl _ _).alloc (Nat.le_refl _) _⟩
set_option maxRecDepth 100000 in
set_option maxHeartbeats 4000000 in
theorem clo212 (x0 x1 : Int) (x2 : ByteArray) (x3 x4 : Int) (pv : Value) (kd : Int) (nm : ByteArray) (c d : Nat) (w : World) (hc : w.cell? ⟨c, 0, none⟩ = some (.int .i64 kd)) (hd : w.cell? ⟨d, 0, none⟩ = some (.string nm)) : Calls Tryz.prog 212 #[.agg #[.int .i64 x0, .int .i64 x1, .string x2, .int .i64 x3, .int .i64 x4, pv], .pointer (some ⟨c, 0, none⟩), .pointer (some ⟨d, 0, none⟩)] w (RetB (decide (x1 = kd) && eqS x2 nm) w) := by
 obtain ⟨V, hV⟩ : ∃ V, V = (decide (x1 = kd) && eqS x2 nm) := ⟨_, rfl⟩
 rw [← hV]
 have hc2 : (w.alloc (.cells #[.int .i64 x0, .int .i64 x1, .string x2, .int .i64 x3, .int .i64 x4, pv] 107)).cell? ⟨c, 0, none⟩ = some (.int .i64 kd) := (World.cell?_of_block (Below.heap_alloc _ _ _ (World.block_lt_of_cell? _ _ hc))).trans hc
 have hd2 : (w.alloc (.cells #[.int .i64 x0, .int .i64 x1, .string x2, .int .i64 x3, .int .i64 x4, pv] 107)).cell? ⟨d, 0, none⟩ = some (.string nm) := (World.cell?_of_block (Below.heap_alloc _ _ _ (World.block_lt_of_cell? _ _ hd))).trans hd
 by_cases h : x1 = kd
 ·subst h
  by_cases g : x2 = nm
  ·subst g
   have HV := Lib.hid (show V = true by rw [hV, (eqS_iff x2 x2).2 rfl]; simp)
   clear hV
   go_enter Tryz.func212, Tryz.ntmps212
   go_wp2_with fail
   go_ret
   exact ⟨by rw [HV.out]; rfl, (Below.refl _ _).alloc (Nat.le_refl _) _⟩
  ·have s1 := beqS_ne g
   have s2 := beqS_ne' g
   have HV := Lib.hid (show V = false by rw [hV, Bool.and_eq_false_iff]; right; rw [← Bool.not_eq_true]; exact fun e => g ((eqS_iff _ _).1 e))
   clear g hV
   go_enter Tryz.func212, Tryz.ntmps212
   go_wp2_with fail
   go_ret
   exact ⟨by rw [HV.out]; rfl, (Below.refl _ _).alloc (Nat.le_refl _) _⟩
 ·have b1 : (x1 == kd) = false := by rw [beq_eq_false_iff_ne]; exact h
  have HV := Lib.hid (show V = false by rw [hV, decide_eq_false h]; rfl)
  clear h hV
  go_enter Tryz.func212, Tryz.ntmps212
  go_wp2_with fail
  go_ret
  exact ⟨by rw [HV.out]; rfl, (Below.refl _ _).alloc (Nat.le_refl _) _⟩
def idxP {α : Type} (p : α → Bool) (l : List α) : Int := match l.findIdx? p with
 | some i => (i : Int)
 | none => -1
theorem idxP_hit {α : Type} {p : α → Bool} {l : List α} {i : Nat} {x : α} (hi : ∀ y ∈ l.take i, p y = false) (hx : l[i]? = some x) (hp : p x = true) : idxP p l = i := by
 unfold idxP
 obtain ⟨h1, h2⟩ := List.getElem?_eq_some_iff.1 hx
 have : l.findIdx? p = some i := by
  rw [List.findIdx?_eq_some_iff_getElem]
  refine ⟨h1, by rw [h2]; exact hp, fun j hj => ?_⟩
  have := hi (l[j]'(by omega)) (List.mem_iff_getElem?.2 ⟨j, by rw [List.getElem?_take, if_pos hj]; exact List.getElem?_eq_getElem (by omega)⟩)
  rw [this]
  simp
 rw [this]
theorem idxP_none {α : Type} {p : α → Bool} {l : List α} (hi : ∀ y ∈ l, p y = false) : idxP p l = -1 := by
 unfold idxP
 rw [List.findIdx?_eq_none_iff.2 hi]
theorem take_all {α : Type} {p : α → Bool} {l : List α} {i : Nat} {x : α} (hi : ∀ y ∈ l.take i, p y = false) (hx : l[i]? = some x) (hp : p x = false) : ∀ y ∈ l.take (i + 1), p y = false := fun y hy => by
 rw [take_snoc hx] at hy
 rcases List.mem_append.1 hy with q | q
 ·exact hi y q
 ·rw [List.mem_singleton.1 q]
  exact hp
theorem cell_below {w w' : World} {b : Nat} {v : Value} (h : w.cell? ⟨b, 0, none⟩ = some v) (hb : Below w.heap.size w w') : w'.cell? ⟨b, 0, none⟩ = some v :=
 (World.cell?_of_block (a := ⟨b, 0, none⟩) (hb.block b (World.block_lt_of_cell? _ _ h))).trans h
set_option maxRecDepth 100000 in
set_option maxHeartbeats 4000000 in
theorem idx_clo213 (G : Nat → Prop) (w : World) (v : Value) (l : List Sty) (id : Int) (c : Nat) (hc : w.cell? ⟨c, 0, none⟩ = some (.int .i64 id)) (hv : Slv styP 6 w G v l) : Calls Tryz.prog 211 #[v, .func (.func 213) #[] #[.pointer (some ⟨c, 0, none⟩)]] w (RetI (idxP (fun s : Sty => decide (s.1 = id)) l) w) := by
 obtain ⟨V, hV⟩ : ∃ V, V = idxP (fun s : Sty => decide (s.1 = id)) l := ⟨_, rfl⟩
 rw [← hV]
 have HVV := Lib.hid hV
 clear hV
 obtain ⟨A, cp, rfl, _, hm1⟩ := hv.shape
 obtain ⟨n, hn⟩ : ∃ n, n = l.length := ⟨_, rfl⟩
 have hnn : n ≤ 9223372036854775807 := by unfold maxLen at hm1; omega
 have HV := Lib.hid hv
 rw [← hn]
 have HN := Lib.hid hn
 have Hhc := Lib.hid hc
 clear hv hm1 hn hc
 go_enter Tryz.func211, Tryz.ntmps211
 go_wp2_with fail
 go_loopw [8] (fun iv wr => ∃ i : Nat, iv = .int .i64 (i : Int) ∧ i ≤ n ∧ Hid (∀ y ∈ l.take i, (fun s : Sty => decide (s.1 = id)) y = false) ∧ Hid (Below w.heap.size w wr)) (fun iv _ => n - (intOf iv).toNat)
 case atStart => exact ⟨0, rfl, Nat.zero_le _, Lib.hid (fun y hy => by simp at hy), Lib.hid (Below.refl _ _)⟩
 case round =>
  obtain ⟨i, rfl, hin, HI, HB⟩ := hrel
  by_cases hlt : i < n
  ·have hlt' : (i : Int) < (n : Int) := by omega
   obtain ⟨x, hx⟩ : ∃ x, l[i]? = some x := ⟨_, List.getElem?_eq_getElem (by rw [← HN.out]; exact hlt)⟩
   obtain ⟨b1, o1, vs, rfl, _, hbw, _, hRx, hcs⟩ := HV.out.at i x hx
   have hE : EltS b1 (o1 + i * 6) vs wr := EltS.below (w := w) hcs hbw HB.out
   obtain ⟨x0, x1, x2, x3, x4, x5⟩ := x
   obtain ⟨pv, rfl, _, _⟩ := hRx
   have e0 := hE 0 _ rfl
   have e1 := hE 1 _ rfl
   have e2 := hE 2 _ rfl
   have e3 := hE 3 _ rfl
   have e4 := hE 4 _ rfl
   have e5 := hE 5 _ rfl
   simp only [Nat.add_zero] at e0
   have C := Lib.hid (clo213 x0 x1 x2 x3 x4 pv id c wr (cell_below Hhc.out HB.out))
   have HX := Lib.hid hx
   clear hcs hx hE
   go_wp2_with fail
   refine C.out.mono ?_
   rintro e w2 ⟨rfl, hb2⟩
   have HB2 := Lib.hid (HB.out.trans (hb2.mono HB.out.size))
   obtain ⟨r, hr⟩ : ∃ r, r = (fun s : Sty => decide (s.1 = id)) (x0, x1, x2, x3, x4, x5) := ⟨_, rfl⟩
   change r = _ at hr
   have HR := Lib.hid hr
   simp only at hr
   rw [← hr]
   clear hb2 C hr e0 e1 e2 e3 e4 e5 HB
   cases r
   ·have HI2 := Lib.hid (take_all HI.out HX.out HR.out.symm)
    clear HI HR
    go_wp2_with fail
    exact ⟨⟨i + 1, by go_num, by omega, HI2, HB2⟩, by simp [intOf]; omega⟩
   ·have HF := Lib.hid (idxP_hit HI.out HX.out HR.out.symm)
    clear HI HR
    go_wp2_with fail
    go_ret
    exact ⟨by rw [HVV.out, HF.out]; rfl, HB2.out⟩
  ·have hlt' : ¬ (i : Int) < (n : Int) := by omega
   have HF := Lib.hid (idxP_none (p := fun s : Sty => decide (s.1 = id)) (l := l) (by
    have h1 := HI.out
    rw [List.take_of_length_le (by rw [← HN.out]; omega)] at h1
    exact h1))
   clear HI
   go_wp2_with fail
   go_ret
   exact ⟨by rw [HVV.out, HF.out]; rfl, HB.out⟩
set_option maxRecDepth 100000 in
set_option maxHeartbeats 4000000 in
theorem idx_clo212 (G : Nat → Prop) (w : World) (v : Value) (l : List Sty) (kd : Int) (nm : ByteArray) (c : Nat) (d : Nat) (hc : w.cell? ⟨c, 0, none⟩ = some (.int .i64 kd)) (hd : w.cell? ⟨d, 0, none⟩ = some (.string nm)) (hv : Slv styP 6 w G v l) : Calls Tryz.prog 211 #[v, .func (.func 212) #[] #[.pointer (some ⟨c, 0, none⟩), .pointer (some ⟨d, 0, none⟩)]] w (RetI (idxP (fun s : Sty => decide (s.2.1 = kd) && eqS s.2.2.1 nm) l) w) := by
 obtain ⟨V, hV⟩ : ∃ V, V = idxP (fun s : Sty => decide (s.2.1 = kd) && eqS s.2.2.1 nm) l := ⟨_, rfl⟩
 rw [← hV]
 have HVV := Lib.hid hV
 clear hV
 obtain ⟨A, cp, rfl, _, hm1⟩ := hv.shape
 obtain ⟨n, hn⟩ : ∃ n, n = l.length := ⟨_, rfl⟩
 have hnn : n ≤ 9223372036854775807 := by unfold maxLen at hm1; omega
 have HV := Lib.hid hv
 rw [← hn]
 have HN := Lib.hid hn
 have Hhc := Lib.hid hc
 have Hhd := Lib.hid hd
 clear hv hm1 hn hc hd
 go_enter Tryz.func211, Tryz.ntmps211
 go_wp2_with fail
 go_loopw [8] (fun iv wr => ∃ i : Nat, iv = .int .i64 (i : Int) ∧ i ≤ n ∧ Hid (∀ y ∈ l.take i, (fun s : Sty => decide (s.2.1 = kd) && eqS s.2.2.1 nm) y = false) ∧ Hid (Below w.heap.size w wr)) (fun iv _ => n - (intOf iv).toNat)
 case atStart => exact ⟨0, rfl, Nat.zero_le _, Lib.hid (fun y hy => by simp at hy), Lib.hid (Below.refl _ _)⟩
 case round =>
  obtain ⟨i, rfl, hin, HI, HB⟩ := hrel
  by_cases hlt : i < n
  ·have hlt' : (i : Int) < (n : Int) := by omega
   obtain ⟨x, hx⟩ : ∃ x, l[i]? = some x := ⟨_, List.getElem?_eq_getElem (by rw [← HN.out]; exact hlt)⟩
   obtain ⟨b1, o1, vs, rfl, _, hbw, _, hRx, hcs⟩ := HV.out.at i x hx
   have hE : EltS b1 (o1 + i * 6) vs wr := EltS.below (w := w) hcs hbw HB.out
   obtain ⟨x0, x1, x2, x3, x4, x5⟩ := x
   obtain ⟨pv, rfl, _, _⟩ := hRx
   have e0 := hE 0 _ rfl
   have e1 := hE 1 _ rfl
   have e2 := hE 2 _ rfl
   have e3 := hE 3 _ rfl
   have e4 := hE 4 _ rfl
   have e5 := hE 5 _ rfl
   simp only [Nat.add_zero] at e0
   have C := Lib.hid (clo212 x0 x1 x2 x3 x4 pv kd nm c d wr (cell_below Hhc.out HB.out) (cell_below Hhd.out HB.out))
   have HX := Lib.hid hx
   clear hcs hx hE
   go_wp2_with fail
   refine C.out.mono ?_
   rintro e w2 ⟨rfl, hb2⟩
   have HB2 := Lib.hid (HB.out.trans (hb2.mono HB.out.size))
   obtain ⟨r, hr⟩ : ∃ r, r = (fun s : Sty => decide (s.2.1 = kd) && eqS s.2.2.1 nm) (x0, x1, x2, x3, x4, x5) := ⟨_, rfl⟩
   change r = _ at hr
   have HR := Lib.hid hr
   simp only at hr
   rw [← hr]
   clear hb2 C hr e0 e1 e2 e3 e4 e5 HB
   cases r
   ·have HI2 := Lib.hid (take_all HI.out HX.out HR.out.symm)
    clear HI HR
    go_wp2_with fail
    exact ⟨⟨i + 1, by go_num, by omega, HI2, HB2⟩, by simp [intOf]; omega⟩
   ·have HF := Lib.hid (idxP_hit HI.out HX.out HR.out.symm)
    clear HI HR
    go_wp2_with fail
    go_ret
    exact ⟨by rw [HVV.out, HF.out]; rfl, HB2.out⟩
  ·have hlt' : ¬ (i : Int) < (n : Int) := by omega
   have HF := Lib.hid (idxP_none (p := fun s : Sty => decide (s.2.1 = kd) && eqS s.2.2.1 nm) (l := l) (by
    have h1 := HI.out
    rw [List.take_of_length_le (by rw [← HN.out]; omega)] at h1
    exact h1))
   clear HI
   go_wp2_with fail
   go_ret
   exact ⟨by rw [HVV.out, HF.out]; rfl, HB.out⟩
end Go.Proofs.YtmhhcfceikcfbaaGreat
