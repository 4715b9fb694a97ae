/- Walks: the table of lists, the settings checked. -/
import Derived.Test.YtmhhcfceikcfbaaGreatDfG4
import Derived.Test.YtmhhcfceikcfbaaGreatDfM9
import Derived.Test.YtmhhcfceikcfbaaGreatDfN10
namespace Go.Proofs.YtmhhcfceikcfbaaGreat
open Go.RowKit
def lstT (C : ByteArray → Int → Int) (l : List Lst) (i : Nat) : Int := match l[i]? with
 | some x => firstE [incL (l.map (·.1)) i, lvlsT C x.2]
 | none => 0
def lstsT (C : ByteArray → Int → Int) (l : List Lst) : Int := firstE [orE (decide (64 < l.length)) 9, allR (lstT C l) (min l.length 64) 0]
set_option maxRecDepth 100000 in
set_option maxHeartbeats 4000000 in
theorem clo176 (C : ByteArray → Int → Int) (hC : TmpC C) (G : Nat → Prop) (w : World) (A : Option Addr) (c : Nat) (l : List Lst) (i : Nat) (g : Nat) (hi : i < l.length) (hv : Slv lstP 2 w G (.slice A l.length c) l) (hG : ∀ b, G b → b < w.heap.size) (hz : (listE lstE l).length ≤ 1048576000) (hb : w.heap[g]? = some (.cells #[.slice A l.length c] 43 (0, 0))) : Calls Tryz.prog 176 #[.int .i64 (i : Int), .pointer (some ⟨g, 0, none⟩)] w (RetI (lstT C l i) w) := by
 obtain ⟨V, hV⟩ : ∃ V, V = lstT C l i := ⟨_, rfl⟩
 rw [← hV]
 obtain ⟨x, hx⟩ : ∃ x, l[i]? = some x := ⟨_, List.getElem?_eq_getElem hi⟩
 unfold lstT at hV
 rw [hx] at hV
 simp only at hV
 have hzl : (listE lvlE x.2).length ≤ 1048576000 := by
  have h1 := mem_le (e := lstE) (List.mem_of_getElem? hx)
  have h2 : (listE lvlE x.2).length ≤ (lstE x).length := by simp only [lstE, seqE, List.length_append]; omega
  omega
 obtain ⟨b1, o1, vs, rfl, hgb, hbw, _, hRx, hcs⟩ := hv.at i x hx
 have hE : EltS b1 (o1 + i * 2) vs w := hcs
 obtain ⟨hlen, hcm⟩ : l.length ≤ c ∧ c ≤ maxLen := by obtain ⟨A', c', hv', h1, h2, _⟩ := hv; cases hv'; exact ⟨h1, h2⟩
 unfold maxLen at hcm
 have HV := Lib.hid hv
 obtain ⟨x0, x1⟩ := x
 obtain ⟨pv, rfl, _, hL⟩ := hRx
 obtain ⟨pA, pc, rfl, _, _⟩ := hL.shape
 simp only at hV hzl hL hE
 obtain ⟨pn, hpn⟩ : ∃ n, n = x1.length := ⟨_, rfl⟩
 rw [← hpn] at hL hE
 obtain ⟨n, hn⟩ : ∃ n, n = l.length := ⟨_, rfl⟩
 have hin : (i : Int) < (n : Int) := by omega
 have HG := Lib.hid hG
 have C1 : Hid (∀ W, Below w.heap.size w W → Calls Tryz.prog 104 #[.int .i64 (i : Int), .func (.func 177) #[] #[.pointer (some ⟨g, 0, none⟩)]] W (RetI (incL (l.map (·.1)) i) W)) := Lib.hid (fun W hW => incB 177 g (ent 177 _ _ Tryz.func177 (by kernel_rfl) rfl) (l.map (·.1)) i (by simpa using hi) (by rw [List.length_map]; omega) W (fun k y hy W' hW' => by
  rw [List.getElem?_map] at hy
  obtain ⟨z, hz, rfl⟩ := Option.map_eq_some_iff.1 hy
  have hww := hW.trans (hW'.mono hW.size)
  exact clo177 G W' _ c l k z g hz (HV.out.below stb_lst HG.out hww) ((hww.block g (lt_of_blk hb)).trans hb)))
 obtain ⟨E1, hE1⟩ : ∃ E, E = incL (l.map (·.1)) i := ⟨_, rfl⟩
 rw [← hE1] at hV C1
 obtain ⟨E2, hE2⟩ : ∃ E, E = lvlsT C x1 := ⟨_, rfl⟩
 have C2 : Hid (∀ W, Below w.heap.size w W → Calls Tryz.prog 178 #[.slice pA pn pc] W (RetI E2 W)) := Lib.hid (fun W hW => by rw [hE2]; exact levels178 C hC G W _ x1 (hL.below stb_lvl hG hW) (fun b h => Nat.lt_of_lt_of_le (hG b h) hW.size) hzl)
 rw [← hE2] at hV
 have HF := Lib.hid hV
 rw [← hn] at hb
 have HB := Lib.hid (Below.refl w.heap.size w)
 clear hV hE1 hE2 hx hv hcs hn hzl hG hL hpn hC
 go_enter Tryz.func176, Tryz.ntmps176
 go_upto_region 1 with fail
 replace hb : w.drew.heap[g]? = some (.cells #[.slice (some ⟨b1, o1, none⟩) n c] 43 (0, 0)) := hb
 replace hE : EltS b1 (o1 + i * 2) [.int .i64 x0, .slice pA pn pc] w.drew := hE
 replace HB := Lib.hid HB.out.drew
 refine wp_region_seq (S := fun w' => w'.heap[g]? = some (.cells #[.slice (some ⟨b1, o1, none⟩) n c] 43 (0, 0)) ∧ EltS b1 (o1 + i * 2) [.int .i64 x0, .slice pA pn pc] w') [(true, 0), (true, 1), (true, 3), (true, 4), (true, 5), (true, 6), (true, 7), (false, 2), (false, 8), (false, 9), (false, 10), (true, 11)] (by kernel_rfl) (by kernel_rfl) ⟨hb, hE⟩ ?_
 simp only [pickL, List.getElem?_cons_succ, List.getElem?_cons_zero]
 refine sq_load (.int .i64 (i : Int)) (fun w' hS => by go_simp) ?_
 simp only [Act.put, PutA, PutZ, PutS]
 refine sq_load (.func (.func 177) #[] #[.pointer (some ⟨g, 0, none⟩)]) (fun w' hS => by go_simp) ?_
 simp only [Act.put, PutA, PutZ, PutS]
 refine sq_load (.slice (some ⟨b1, o1, none⟩) n c) (fun w' hS => by have q0 := blk_cell hS.1 0; go_simp) ?_
 simp only [Act.put, PutA, PutZ, PutS]
 refine sq_load (.int .i64 (i : Int)) (fun w' hS => by go_simp) ?_
 simp only [Act.put, PutA, PutZ, PutS]
 refine sq_load (.pointer (some ⟨b1, o1 + i * 2, none⟩)) (fun w' hS => by go_simp) ?_
 simp only [Act.put, PutA, PutZ, PutS]
 refine sq_load (.pointer (some ⟨b1, o1 + i * 2 + 1, none⟩)) (fun w' hS => by go_simp) ?_
 simp only [Act.put, PutA, PutZ, PutS]
 refine sq_load (.slice pA pn pc) (fun w' hS => by have q0 := hS.2 1 _ rfl; go_simp) ?_
 simp only [Act.put, PutA, PutZ, PutS]
 refine sq_call 104 #[.int .i64 (i : Int), .func (.func 177) #[] #[.pointer (some ⟨g, 0, none⟩)]] (by go_simp) ?_
 refine Calls.mono (C1.out _ HB.out) ?_
 rintro e wp1 ⟨rfl, hbp1⟩
 replace hb := blk_ov hb hbp1
 replace hE := EltS.over hE hbp1
 replace HB := Lib.hid (HB.out.trans (hbp1.mono HB.out.size))
 clear hbp1
 refine ⟨_, rfl, ⟨hb, hE⟩, ?_⟩
 simp only [Act.put, PutA, PutZ, PutS]
 refine sq_call 178 #[.slice pA pn pc] (by go_simp) ?_
 refine Calls.mono (C2.out _ HB.out) ?_
 rintro e wp2 ⟨rfl, hbp2⟩
 replace hb := blk_ov hb hbp2
 replace hE := EltS.over hE hbp2
 replace HB := Lib.hid (HB.out.trans (hbp2.mono HB.out.size))
 clear hbp2
 refine ⟨_, rfl, ⟨hb, hE⟩, ?_⟩
 simp only [Act.put, PutA, PutZ, PutS]
 refine sq_value (.slice (some ⟨wp2.heap.size, 0, none⟩) 2 2) (wp2.alloc (.cells #[.int .i64 E1, .int .i64 E2] 23)) (by go_simp) ?_ ?_
 ·exact ⟨blk_ov hb (below_alloc wp2 _), EltS.over hE (below_alloc wp2 _)⟩
 have hnp3 : (wp2.alloc (.cells #[.int .i64 E1, .int .i64 E2] 23)).heap[wp2.heap.size]? = some (.cells #[.int .i64 E1, .int .i64 E2] 23 (0, 0)) := heap_alloc_new _ _
 have hbp3 := below_alloc wp2 (.cells #[.int .i64 E1, .int .i64 E2] 23)
 obtain ⟨wp3, hwp3⟩ : ∃ X, X = wp2.alloc (.cells #[.int .i64 E1, .int .i64 E2] 23) := ⟨_, rfl⟩
 obtain ⟨gp3, hgp3⟩ : ∃ g, g = wp2.heap.size := ⟨_, rfl⟩
 rw [← hwp3] at hnp3 hbp3 ⊢
 rw [← hgp3] at hnp3 ⊢
 replace hb := blk_ov hb hbp3
 replace hE := EltS.over hE hbp3
 replace HB := Lib.hid (HB.out.trans (hbp3.mono HB.out.size))
 clear hwp3 hgp3 hbp3
 simp only [Act.put, PutA, PutZ, PutS]
 refine sq_call 46 #[.slice (some ⟨gp3, 0, none⟩) 2 2] (by go_simp) ?_
 refine Calls.mono (first_of [E1, E2] hnp3 rfl (by simp)) ?_
 rintro e wp4 ⟨rfl, rfl⟩
 refine ⟨_, rfl, ⟨hb, hE⟩, ?_⟩
 simp only [Act.put, PutA, PutZ, PutS]
 refine sq_load (.int .i64 (firstE [E1, E2])) (fun w' hS => by go_simp) ?_
 simp only [Act.put, PutA, PutZ, PutS]
 refine sq_done ?_
 clear hE hb
 go_wp2_with fail
 go_ret
 exact ⟨by rw [HF.out]; rfl, HB.out⟩
set_option maxRecDepth 100000 in
set_option maxHeartbeats 4000000 in
theorem tab99 (C : ByteArray → Int → Int) (hC : TmpC C) (G : Nat → Prop) (w : World) (v : Value) (l : List Lst) (hv : Slv lstP 2 w G v l) (hG : ∀ b, G b → b < w.heap.size) (hz : (listE lstE l).length ≤ 1048576000) : Calls Tryz.prog 99 #[v] w (RetI (lstsT C l) w) := by
 obtain ⟨V, hV⟩ : ∃ V, V = lstsT C l := ⟨_, rfl⟩
 rw [← hV]
 unfold lstsT at hV
 obtain ⟨A, c, rfl, hlc, hcm⟩ := hv.shape
 unfold maxLen at hcm
 obtain ⟨N, hN⟩ : ∃ N, N = w.heap.size := ⟨_, rfl⟩
 obtain ⟨W, hW⟩ : ∃ W, W = w.alloc (.cells #[.slice A l.length c] 43) := ⟨_, rfl⟩
 have hb : W.heap[N]? = some (.cells #[.slice A l.length c] 43 (0, 0)) := by rw [hW, hN]; exact heap_alloc_new w _
 have hB : Below w.heap.size w W := by rw [hW]; exact below_alloc w _
 have HVV := Lib.hid hv
 have HCC := Lib.hid hC
 have HGG := Lib.hid hG
 have Hbb := Lib.hid hb
 have C1 : Hid (∀ X, Below W.heap.size W X → Calls Tryz.prog 102 #[.int .i64 ((min l.length 64 : Nat) : Int), .func (.func 176) #[] #[.pointer (some ⟨N, 0, none⟩)]] X (RetI (allR (lstT C l) (min l.length 64) 0) X)) := Lib.hid (fun X hX => allB 176 _ (ent 176 _ _ Tryz.func176 (by kernel_rfl) rfl) (min l.length 64) (by omega) (lstT C l) X (fun i hi Y hY => by
  have hXY := hX.trans (hY.mono hX.size)
  have hwY := hB.trans (hXY.mono hB.size)
  exact clo176 C HCC.out G Y A c l i N (by omega) (HVV.out.below stb_lst HGG.out hwY) (fun b h => Nat.lt_of_lt_of_le (HGG.out b h) hwY.size) hz (blk_ov Hbb.out hXY)))
 obtain ⟨n, hn⟩ : ∃ n, n = l.length := ⟨_, rfl⟩
 obtain ⟨E2, hE2⟩ : ∃ E, E = allR (lstT C l) (min l.length 64) 0 := ⟨_, rfl⟩
 rw [← hE2] at C1 hV
 rw [← hn] at C1 hV hb hW ⊢
 obtain ⟨E1, hE1⟩ : ∃ E, E = orE (decide (64 < n)) 9 := ⟨_, rfl⟩
 have C2 : Hid (∀ W, Calls Tryz.prog 51 #[.bool (decide ((64 : Int) < (n : Int))), .int .i64 9] W fun e w' => e = .returned (.int .i64 E1) ∧ W = w') := Lib.hid (fun W => by
  rw [show decide ((64 : Int) < (n : Int)) = decide (64 < n) by by_cases h : 64 < n <;> simp [h] <;> omega, hE1]
  exact when51 _ 9 W)
 rw [← hE1] at hV
 obtain ⟨m, hm⟩ : ∃ m, m = min n 64 := ⟨_, rfl⟩
 rw [← hm] at C1
 have emin : (if (64 : Int) < (n : Int) then (64 : Int) else (n : Int)) = (m : Int) := by split <;> omega
 have HF := Lib.hid hV
 have HW := Lib.hid hW
 have HN := Lib.hid hN
 have HB := Lib.hid hB
 have HB0 := Lib.hid (Below.refl W.heap.size W)
 clear hV hE1 hE2 hm hn hW hN hB hv hG hz hC
 go_enter Tryz.func99, Tryz.ntmps99
 go_upto_region 1 with fail
 rw [← HW.out, ← HN.out]
 replace hb : W.drew.heap[N]? = some (.cells #[.slice A n c] 43 (0, 0)) := hb
 replace HB0 := Lib.hid HB0.out.drew
 refine wp_region_seq (S := fun w' => w'.heap[N]? = some (.cells #[.slice A n c] 43 (0, 0))) [(true, 0), (true, 1), (true, 2), (true, 4), (true, 5), (true, 6), (true, 7), (false, 3), (false, 8), (false, 9), (false, 10), (true, 11)] (by kernel_rfl) (by kernel_rfl) hb ?_
 simp only [pickL, List.getElem?_cons_succ, List.getElem?_cons_zero]
 refine sq_load (.slice A n c) (fun w' hS => by have q0 := blk_cell hS 0; go_simp) ?_
 simp only [Act.put, PutA, PutZ, PutS]
 refine sq_load (.int .i64 (n : Int)) (fun w' hS => by go_simp) ?_
 simp only [Act.put, PutA, PutZ, PutS]
 refine sq_load (.bool (decide ((64 : Int) < (n : Int)))) (fun w' hS => by go_simp) ?_
 simp only [Act.put, PutA, PutZ, PutS]
 refine sq_load (.slice A n c) (fun w' hS => by have q0 := blk_cell hS 0; go_simp) ?_
 simp only [Act.put, PutA, PutZ, PutS]
 refine sq_load (.int .i64 (n : Int)) (fun w' hS => by go_simp) ?_
 simp only [Act.put, PutA, PutZ, PutS]
 refine sq_load (.int .i64 (m : Int)) (fun w' hS => by go_simp) ?_
 simp only [Act.put, PutA, PutZ, PutS]
 refine sq_load (.func (.func 176) #[] #[.pointer (some ⟨N, 0, none⟩)]) (fun w' hS => by go_simp) ?_
 simp only [Act.put, PutA, PutZ, PutS]
 refine sq_call 51 #[.bool (decide ((64 : Int) < (n : Int))), .int .i64 9] (by go_simp) ?_
 refine Calls.mono (C2.out _) ?_
 rintro e wp1 ⟨rfl, rfl⟩
 refine ⟨_, rfl, hb, ?_⟩
 simp only [Act.put, PutA, PutZ, PutS]
 refine sq_call 102 #[.int .i64 (m : Int), .func (.func 176) #[] #[.pointer (some ⟨N, 0, none⟩)]] (by go_simp) ?_
 refine Calls.mono (C1.out _ HB0.out) ?_
 rintro e wp2 ⟨rfl, hbp2⟩
 replace hb := blk_ov hb hbp2
 replace HB0 := Lib.hid (HB0.out.trans (hbp2.mono HB0.out.size))
 clear hbp2
 refine ⟨_, rfl, hb, ?_⟩
 simp only [Act.put, PutA, PutZ, PutS]
 refine sq_value (.slice (some ⟨wp2.heap.size, 0, none⟩) 2 2) (wp2.alloc (.cells #[.int .i64 E1, .int .i64 E2] 23)) (by go_simp) ?_ ?_
 ·exact blk_ov hb (below_alloc wp2 _)
 have hnp3 : (wp2.alloc (.cells #[.int .i64 E1, .int .i64 E2] 23)).heap[wp2.heap.size]? = some (.cells #[.int .i64 E1, .int .i64 E2] 23 (0, 0)) := heap_alloc_new _ _
 have hbp3 := below_alloc wp2 (.cells #[.int .i64 E1, .int .i64 E2] 23)
 obtain ⟨wp3, hwp3⟩ : ∃ X, X = wp2.alloc (.cells #[.int .i64 E1, .int .i64 E2] 23) := ⟨_, rfl⟩
 obtain ⟨gp3, hgp3⟩ : ∃ g, g = wp2.heap.size := ⟨_, rfl⟩
 rw [← hwp3] at hnp3 hbp3 ⊢
 rw [← hgp3] at hnp3 ⊢
 replace hb := blk_ov hb hbp3
 replace HB0 := Lib.hid (HB0.out.trans (hbp3.mono HB0.out.size))
 clear hwp3 hgp3 hbp3
 simp only [Act.put, PutA, PutZ, PutS]
 refine sq_call 46 #[.slice (some ⟨gp3, 0, none⟩) 2 2] (by go_simp) ?_
 refine Calls.mono (first_of [E1, E2] hnp3 rfl (by simp)) ?_
 rintro e wp4 ⟨rfl, rfl⟩
 refine ⟨_, rfl, hb, ?_⟩
 simp only [Act.put, PutA, PutZ, PutS]
 refine sq_load (.int .i64 (firstE [E1, E2])) (fun w' hS => by go_simp) ?_
 simp only [Act.put, PutA, PutZ, PutS]
 refine sq_done ?_
 clear hb
 go_wp2_with fail
 go_ret
 exact ⟨by rw [HF.out]; rfl, HB.out.trans (HB0.out.mono HB.out.size)⟩
/-- What the check of a style sheet answers. -/
def StyC (S : List Sty → Int) : Prop := ∀ (G : Nat → Prop) (w : World) (v : Value) (l : List Sty), Slv styP 6 w G v l → (∀ b, G b → b < w.heap.size) → (listE styE l).length ≤ 1048576000 → Calls Tryz.prog 98 #[v] w (RetI (S l) w)
def stgT (S : List Sty → Int) (C : ByteArray → Int → Int) (x : Stg) : Int := firstE [S x.1, lstsT C x.2.1, cmtsT x.2.2.1, varsT x.2.2.2]
set_option maxRecDepth 100000 in
set_option maxHeartbeats 4000000 in
theorem settings47 (S : List Sty → Int) (hS : StyC S) (C : ByteArray → Int → Int) (hC : TmpC C) : SetC (stgT S C) := by
 intro G w vs x hX hG hz
 obtain ⟨V, hV⟩ : ∃ V, V = stgT S C x := ⟨_, rfl⟩
 rw [← hV]
 unfold stgT at hV
 obtain ⟨v0, v1, v2, v3, rfl, h1, h2, h3, h4⟩ := hX
 obtain ⟨x1, x2, x3, x4⟩ := x
 simp only at h1 h2 h3 h4 hV
 have hz1 : (listE styE x1).length ≤ 1048576000 := by simp only [stgE, seqE, List.length_append] at hz; omega
 have hz2 : (listE lstE x2).length ≤ 1048576000 := by simp only [stgE, seqE, List.length_append] at hz; omega
 have hz3 : (listE cmtE x3).length ≤ 1048576000 := by simp only [stgE, seqE, List.length_append] at hz; omega
 have hz4 : (listE vrE x4).length ≤ 1048576000 := by simp only [stgE, seqE, List.length_append] at hz; omega
 obtain ⟨s1, s1c, rfl, _, _⟩ := h1.shape
 obtain ⟨s2, s2c, rfl, _, _⟩ := h2.shape
 obtain ⟨s3, s3c, rfl, _, _⟩ := h3.shape
 obtain ⟨s4, s4c, rfl, _, _⟩ := h4.shape
 obtain ⟨E1, hE1⟩ : ∃ E, E = S x1 := ⟨_, rfl⟩
 obtain ⟨E2, hE2⟩ : ∃ E, E = lstsT C x2 := ⟨_, rfl⟩
 obtain ⟨E3, hE3⟩ : ∃ E, E = cmtsT x3 := ⟨_, rfl⟩
 obtain ⟨E4, hE4⟩ : ∃ E, E = varsT x4 := ⟨_, rfl⟩
 have C1 : Hid (∀ W, Below w.heap.size w W → Calls Tryz.prog 98 #[.slice s1 x1.length s1c] W (RetI E1 W)) := Lib.hid (fun W hW => by rw [hE1]; exact hS G W _ x1 (h1.below stb_sty hG hW) (fun b h => Nat.lt_of_lt_of_le (hG b h) hW.size) hz1)
 have C2 : Hid (∀ W, Below w.heap.size w W → Calls Tryz.prog 99 #[.slice s2 x2.length s2c] W (RetI E2 W)) := Lib.hid (fun W hW => by rw [hE2]; exact tab99 C hC G W _ x2 (h2.below stb_lst hG hW) (fun b h => Nat.lt_of_lt_of_le (hG b h) hW.size) hz2)
 have C3 : Hid (∀ W, Below w.heap.size w W → Calls Tryz.prog 100 #[.slice s3 x3.length s3c] W (RetI E3 W)) := Lib.hid (fun W hW => by rw [hE3]; exact tab100 G W _ x3 (h3.below stb_cmt hG hW) (fun b h => Nat.lt_of_lt_of_le (hG b h) hW.size) hz3)
 have C4 : Hid (∀ W, Below w.heap.size w W → Calls Tryz.prog 101 #[.slice s4 x4.length s4c] W (RetI E4 W)) := Lib.hid (fun W hW => by rw [hE4]; exact tab101 G W _ x4 (h4.below stb_vr hG hW) (fun b h => Nat.lt_of_lt_of_le (hG b h) hW.size) hz4)
 rw [← hE1, ← hE2, ← hE3, ← hE4] at hV
 obtain ⟨s1n, hn1⟩ : ∃ n, n = x1.length := ⟨_, rfl⟩
 obtain ⟨s2n, hn2⟩ : ∃ n, n = x2.length := ⟨_, rfl⟩
 obtain ⟨s3n, hn3⟩ : ∃ n, n = x3.length := ⟨_, rfl⟩
 obtain ⟨s4n, hn4⟩ : ∃ n, n = x4.length := ⟨_, rfl⟩
 rw [← hn1] at C1 ⊢
 rw [← hn2] at C2 ⊢
 rw [← hn3] at C3 ⊢
 rw [← hn4] at C4 ⊢
 have HF := Lib.hid hV
 obtain ⟨N, hN⟩ : ∃ N, N = w.heap.size := ⟨_, rfl⟩
 obtain ⟨W, hW⟩ : ∃ W, W = w.alloc (.cells #[.slice s1 s1n s1c, .slice s2 s2n s2c, .slice s3 s3n s3c, .slice s4 s4n s4c] 47) := ⟨_, rfl⟩
 have hb : W.heap[N]? = some (.cells #[.slice s1 s1n s1c, .slice s2 s2n s2c, .slice s3 s3n s3c, .slice s4 s4n s4c] 47 (0, 0)) := by rw [hW]; exact heap_alloc_new' _ _ hN
 have hB : Below w.heap.size w W := by rw [hW]; exact below_alloc w _
 have HW := Lib.hid hW
 have HN := Lib.hid hN
 have HB := Lib.hid hB
 clear hV hE1 hE2 hE3 hE4 hn1 hn2 hn3 hn4 h1 h2 h3 h4 hz hz1 hz2 hz3 hz4 hG hN hW hB hS hC
 go_enter Tryz.func47, Tryz.ntmps47
 go_upto_region 1 with fail
 rw [← HW.out, ← HN.out]
 replace hb : W.drew.heap[N]? = some (.cells #[.slice s1 s1n s1c, .slice s2 s2n s2c, .slice s3 s3n s3c, .slice s4 s4n s4c] 47 (0, 0)) := hb
 replace HB := Lib.hid HB.out.drew
 refine wp_region_seq (S := fun w' => w'.heap[N]? = some (.cells #[.slice s1 s1n s1c, .slice s2 s2n s2c, .slice s3 s3n s3c, .slice s4 s4n s4c] 47 (0, 0))) [(true, 0), (true, 1), (true, 3), (true, 4), (true, 6), (true, 7), (true, 9), (true, 10), (false, 2), (false, 5), (false, 8), (false, 11), (false, 12), (false, 13), (true, 14)] (by kernel_rfl) (by kernel_rfl) hb ?_
 simp only [pickL, List.getElem?_cons_succ, List.getElem?_cons_zero]
 refine sq_load (.pointer (some ⟨N, 0, none⟩)) (fun w' hS => by go_simp) ?_
 simp only [Act.put, PutA, PutZ, PutS]
 refine sq_load (.slice s1 s1n s1c) (fun w' hS => by have q0 := blk_cell hS 0; go_simp) ?_
 simp only [Act.put, PutA, PutZ, PutS]
 refine sq_load (.pointer (some ⟨N, 1, none⟩)) (fun w' hS => by go_simp) ?_
 simp only [Act.put, PutA, PutZ, PutS]
 refine sq_load (.slice s2 s2n s2c) (fun w' hS => by have q0 := blk_cell hS 1; go_simp) ?_
 simp only [Act.put, PutA, PutZ, PutS]
 refine sq_load (.pointer (some ⟨N, 2, none⟩)) (fun w' hS => by go_simp) ?_
 simp only [Act.put, PutA, PutZ, PutS]
 refine sq_load (.slice s3 s3n s3c) (fun w' hS => by have q0 := blk_cell hS 2; go_simp) ?_
 simp only [Act.put, PutA, PutZ, PutS]
 refine sq_load (.pointer (some ⟨N, 3, none⟩)) (fun w' hS => by go_simp) ?_
 simp only [Act.put, PutA, PutZ, PutS]
 refine sq_load (.slice s4 s4n s4c) (fun w' hS => by have q0 := blk_cell hS 3; go_simp) ?_
 simp only [Act.put, PutA, PutZ, PutS]
 refine sq_call 98 #[.slice s1 s1n s1c] (by go_simp) ?_
 refine Calls.mono (C1.out _ HB.out) ?_
 rintro e wp1 ⟨rfl, hbp1⟩
 replace hb := blk_ov hb hbp1
 replace HB := Lib.hid (HB.out.trans (hbp1.mono HB.out.size))
 clear hbp1
 refine ⟨_, rfl, hb, ?_⟩
 simp only [Act.put, PutA, PutZ, PutS]
 refine sq_call 99 #[.slice s2 s2n s2c] (by go_simp) ?_
 refine Calls.mono (C2.out _ HB.out) ?_
 rintro e wp2 ⟨rfl, hbp2⟩
 replace hb := blk_ov hb hbp2
 replace HB := Lib.hid (HB.out.trans (hbp2.mono HB.out.size))
 clear hbp2
 refine ⟨_, rfl, hb, ?_⟩
 simp only [Act.put, PutA, PutZ, PutS]
 refine sq_call 100 #[.slice s3 s3n s3c] (by go_simp) ?_
 refine Calls.mono (C3.out _ HB.out) ?_
 rintro e wp3 ⟨rfl, hbp3⟩
 replace hb := blk_ov hb hbp3
 replace HB := Lib.hid (HB.out.trans (hbp3.mono HB.out.size))
 clear hbp3
 refine ⟨_, rfl, hb, ?_⟩
 simp only [Act.put, PutA, PutZ, PutS]
 refine sq_call 101 #[.slice s4 s4n s4c] (by go_simp) ?_
 refine Calls.mono (C4.out _ HB.out) ?_
 rintro e wp4 ⟨rfl, hbp4⟩
 replace hb := blk_ov hb hbp4
 replace HB := Lib.hid (HB.out.trans (hbp4.mono HB.out.size))
 clear hbp4
 refine ⟨_, rfl, hb, ?_⟩
 simp only [Act.put, PutA, PutZ, PutS]
 refine sq_value (.slice (some ⟨wp4.heap.size, 0, none⟩) 4 4) (wp4.alloc (.cells #[.int .i64 E1, .int .i64 E2, .int .i64 E3, .int .i64 E4] 23)) (by go_simp) ?_ ?_
 ·exact blk_ov hb (below_alloc wp4 _)
 have hnp5 : (wp4.alloc (.cells #[.int .i64 E1, .int .i64 E2, .int .i64 E3, .int .i64 E4] 23)).heap[wp4.heap.size]? = some (.cells #[.int .i64 E1, .int .i64 E2, .int .i64 E3, .int .i64 E4] 23 (0, 0)) := heap_alloc_new _ _
 have hbp5 := below_alloc wp4 (.cells #[.int .i64 E1, .int .i64 E2, .int .i64 E3, .int .i64 E4] 23)
 obtain ⟨wp5, hwp5⟩ : ∃ X, X = wp4.alloc (.cells #[.int .i64 E1, .int .i64 E2, .int .i64 E3, .int .i64 E4] 23) := ⟨_, rfl⟩
 obtain ⟨gp5, hgp5⟩ : ∃ g, g = wp4.heap.size := ⟨_, rfl⟩
 rw [← hwp5] at hnp5 hbp5 ⊢
 rw [← hgp5] at hnp5 ⊢
 replace hb := blk_ov hb hbp5
 replace HB := Lib.hid (HB.out.trans (hbp5.mono HB.out.size))
 clear hwp5 hgp5 hbp5
 simp only [Act.put, PutA, PutZ, PutS]
 refine sq_call 46 #[.slice (some ⟨gp5, 0, none⟩) 4 4] (by go_simp) ?_
 refine Calls.mono (first_of [E1, E2, E3, E4] hnp5 rfl (by simp)) ?_
 rintro e wp6 ⟨rfl, rfl⟩
 refine ⟨_, rfl, hb, ?_⟩
 simp only [Act.put, PutA, PutZ, PutS]
 refine sq_load (.int .i64 (firstE [E1, E2, E3, E4])) (fun w' hS => by go_simp) ?_
 simp only [Act.put, PutA, PutZ, PutS]
 refine sq_done ?_
 clear hb
 go_wp2_with fail
 go_ret
 exact ⟨by rw [HF.out]; rfl, HB.out⟩
end Go.Proofs.YtmhhcfceikcfbaaGreat
