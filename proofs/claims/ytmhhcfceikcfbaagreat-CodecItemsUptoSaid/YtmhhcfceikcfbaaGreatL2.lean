/- Walks: the law's bytes of numbers, texts, Booleans, properties. -/
import Derived.Test.YtmhhcfceikcfbaaGreatL1
import Derived.Test.YtmhhcfceikcfbaaGreatRep
import Derived.Test.YtmhhcfceikcfbaaGreatW1
import Derived.Test.YtmhhcfceikcfbaaGreatR3
import Derived.Test.YtmhhcfceikcfbaaGreatSq
import Derived.BigQuiet
import Derived.Deep.Cut
namespace Go.Proofs.YtmhhcfceikcfbaaGreat
open Go.RowKit

theorem Rp.below {α : Type} {R : Rp α} (hR : Stb R) {w w' : World} {G : Nat → Prop} {vs : List Value} {x : α} {B : Nat} (h : R w G vs x) (hG : ∀ b, G b → b < B) (hb : Below B w w') : R w' G vs x :=
  hR _ _ _ _ _ _ (fun _ h => h) (fun b hg _ => hb.block b (hG b hg)) h
theorem addS (a b : ByteArray) (h : a.size + b.size ≤ 9223372036854775807) (w : World) : (Op.stringOp .add a b).run Tryz.prog w = .ok (.string (a ++ b)) w :=
  run_string_add_sum w a b h
theorem take_flat {α : Type} (e : α → List Nat) {l : List α} {k : Nat} {x : α} (h : l[k]? = some x) : (l.take (k + 1)).flatMap e = (l.take k).flatMap e ++ e x := by
  rw [List.take_add_one, h, List.flatMap_append]
  simp
theorem take_flat_le {α : Type} (e : α → List Nat) (l : List α) (k : Nat) : ((l.take k).flatMap e).length ≤ (l.flatMap e).length := by
  rw [← List.take_append_drop k l, List.flatMap_append, List.length_append]
  simp

set_option maxRecDepth 100000 in
set_option maxHeartbeats 4000000 in
theorem nums67 (ns : List Int) (g c : Nat) (w : World) (hc : ∀ (j : Nat) (x : Int), ns[j]? = some x → w.cell? ⟨g, j, none⟩ = some (.int .i64 x)) (hI : ∀ n ∈ ns, I64 n) (hl : ns.length ≤ 1000) :
    Calls Tryz.prog 67 #[.slice (some ⟨g, 0, none⟩) ns.length c] w (StrE w (ns.flatMap encN)) := by
  obtain ⟨n, hn⟩ : ∃ n, n = ns.length := ⟨_, rfl⟩
  have hn2 : n ≤ 1000 := by omega
  have HN := Lib.hid hn
  have HC := Lib.hid hc
  have HI := Lib.hid hI
  have HL : Hid ((ns.flatMap encN).length ≤ 10 * n) := Lib.hid (by rw [hn]; exact flatN_len ns hI)
  rw [← hn]
  clear hc hI hn hl
  go_enter Tryz.func67, Tryz.ntmps67
  go_wp2_with fail
  go_loopw [3, 4] (fun sv iv wr => ∃ i : Nat, iv = .int .i64 (i : Int) ∧ i ≤ n ∧ sv = .string (mkB ((ns.take i).flatMap encN)) ∧ Below w.heap.size w wr) (fun _ iv _ => n - (intOf iv).toNat)
  case atStart => exact ⟨0, rfl, Nat.zero_le _, rfl, Below.refl _ _⟩
  case round =>
    obtain ⟨i, rfl, hin, rfl, hb⟩ := hrel
    by_cases hlt : i < n
    · have hlt' : (i : Int) < (n : Int) := by omega
      obtain ⟨x, hx⟩ : ∃ x, ns[i]? = some x := ⟨_, List.getElem?_eq_getElem (by rw [← HN.out]; exact hlt)⟩
      have c1 := HC.out i x hx
      have c0 : wr.cell? ⟨g, i, none⟩ = some (.int .i64 x) := (hb.cell (World.block_lt_of_cell? _ _ c1)).trans c1
      have C := Lib.hid (num_lib x (HI.out x (List.mem_of_getElem? hx)) wr)
      have HT := Lib.hid (take_flat encN hx)
      have hle := take_flat_le encN ns (i + 1)
      rw [HT.out, List.length_append] at hle
      have ka := addL ((ns.take i).flatMap encN) (encN x) (by have := HL.out; omega)
      have HB := Lib.hid hb
      clear hx c1 hle hb
      go_wp2_with fail
      refine C.out.mono ?_
      rintro e w1 ⟨rfl, hb1⟩
      have HB1 := Lib.hid (HB.out.trans (hb1.mono HB.out.size))
      clear hb1 HB C
      go_wp2_with fail
      go_roundw
      case rel => exact ⟨i + 1, by go_num, by omega, by rw [HT.out], HB1.out⟩
      case measure => simp [intOf]; omega
    · have hii : i = n := by omega
      subst hii
      have hlt' : ¬ (i : Int) < (i : Int) := by omega
      have e : ns.take i = ns := List.take_of_length_le (by rw [← HN.out]; exact Nat.le_refl _)
      have HE : Hid ((ns.take i).flatMap encN = ns.flatMap encN) := Lib.hid (by rw [e])
      clear e
      go_wp2_with fail
      go_ret
      exact ⟨by rw [HE.out]; rfl, hb⟩

set_option maxRecDepth 100000 in
set_option maxHeartbeats 4000000 in
theorem txt68 (s : ByteArray) (w : World) (hs : s.size ≤ 1099511627776) : Calls Tryz.prog 68 #[.string s] w (StrE w (strE s)) := by
  have C := Lib.hid (num_lib (s.size : Int) (by unfold I64; omega) w)
  have hl := encN_len (n := (s.size : Int)) (by unfold I64; omega)
  have ka := addS (mkB (encN (s.size : Int))) s (by rw [mkB_size]; omega)
  have HE : Hid (mkB (encN (s.size : Int)) ++ s = mkB (strE s)) := Lib.hid (by unfold strE textE; rw [bytesN_length, ← mkB_app, mkB_bytesN])
  clear hl
  go_enter Tryz.func68, Tryz.ntmps68
  go_wp2_with fail
  refine C.out.mono ?_
  rintro e w1 ⟨rfl, hb1⟩
  have HB := Lib.hid hb1
  clear hb1 C
  go_wp2_with fail
  go_ret
  exact ⟨by rw [← HE.out]; rfl, HB.out⟩

set_option maxRecDepth 100000 in
set_option maxHeartbeats 4000000 in
theorem flg84 (b : Bool) (w : World) : Calls Tryz.prog 84 #[.bool b] w (StrE w (flagE b)) := by
  cases b
  · have C := Lib.hid (num_lib 0 (by unfold I64; omega) w)
    go_enter Tryz.func84, Tryz.ntmps84
    go_wp2_with fail
    refine C.out.mono ?_
    rintro e w1 ⟨rfl, hb1⟩
    have HB := Lib.hid hb1
    clear hb1 C
    go_wp2_with fail
    go_ret
    exact ⟨rfl, HB.out⟩
  · have C := Lib.hid (num_lib 1 (by unfold I64; omega) w)
    go_enter Tryz.func84, Tryz.ntmps84
    go_wp2_with fail
    refine C.out.mono ?_
    rintro e w1 ⟨rfl, hb1⟩
    have HB := Lib.hid hb1
    clear hb1 C
    go_wp2_with fail
    go_ret
    exact ⟨rfl, HB.out⟩
end Go.Proofs.YtmhhcfceikcfbaaGreat
namespace Go.Proofs.YtmhhcfceikcfbaaGreat
open Go.RowKit

/-- An element's cells. -/
def EltS (b o : Nat) (vs : List Value) (w : World) : Prop := ∀ (j : Nat) (u : Value), vs[j]? = some u → w.cell? ⟨b, o + j, none⟩ = some u
theorem EltS.below {b o : Nat} {vs : List Value} {w w' : World} {B : Nat} (h : EltS b o vs w) (hb : b < B) (hk : Below B w w') : EltS b o vs w' :=
  fun j u hu => (hk.cell (p := ⟨b, o + j, none⟩) hb).trans (h j u hu)
theorem EltS.alloc {b o : Nat} {vs : List Value} {w : World} (h : EltS b o vs w) (hb : b < w.heap.size) (ob : Obj) : EltS b o vs (w.alloc ob) :=
  h.below hb ((Below.refl _ _).alloc (Nat.le_refl _) ob)
theorem EltS.drew {b o : Nat} {vs : List Value} {w : World} (h : EltS b o vs w) : EltS b o vs w.drew := h
theorem intV_get {ns : List Int} {j : Nat} {x : Int} (h : ns[j]? = some x) : (ns.map intV)[j]? = some (.int .i64 x) := by
  rw [List.getElem?_map, h]
  rfl

set_option maxRecDepth 100000 in
set_option maxHeartbeats 4000000 in
theorem str_props  (G : Nat → Prop) (w : World) (v : Value) (l : List Two) (hv : Slv twoP 2 w G v l) (hG : ∀ b, G b → b < w.heap.size) (hz : (listE twoE l).length ≤ 1099511627776) :
    Calls Tryz.prog 143 #[v] w (StrE w (listE twoE l)) := by
  obtain ⟨A, cp, hsl, hlc, hcm⟩ := hv.shape
  subst hsl
  obtain ⟨n, hn⟩ : ∃ n, n = l.length := ⟨_, rfl⟩
  unfold maxLen at hcm
  have HV := Lib.hid hv
  have CN := Lib.hid (num_lib (l.length : Int) (by unfold I64; omega) w)
  have HZ : Hid ((encN (l.length : Int) ++ l.flatMap twoE).length ≤ 1099511627776) := Lib.hid hz
  have hE0 : listE twoE l = encN (l.length : Int) ++ l.flatMap twoE := rfl
  rw [hE0]
  rw [← hn] at CN HZ ⊢
  have HN := Lib.hid hn
  have hnn : n ≤ 9223372036854775807 := by omega
  clear hv hz hE0 hlc hn
  go_enter Tryz.func143, Tryz.ntmps143
  go_wp2_with fail
  refine CN.out.mono ?_
  rintro e w1 ⟨rfl, hb1⟩
  have HB1 := Lib.hid hb1
  clear hb1 CN
  go_wp2_with fail
  go_loopw [3, 4] (fun sv iv wr => ∃ i : Nat, iv = .int .i64 (i : Int) ∧ i ≤ n ∧ sv = .string (mkB (encN (n : Int) ++ (l.take i).flatMap twoE)) ∧ Hid (Below w.heap.size w wr)) (fun _ iv _ => n - (intOf iv).toNat)
  case atStart => exact ⟨0, rfl, Nat.zero_le _, by simp, HB1⟩
  case round =>
    obtain ⟨i, rfl, hin, rfl, HB⟩ := hrel
    clear HB1
    by_cases hlt : i < n
    · have hlt' : (i : Int) < (n : Int) := by omega
      obtain ⟨x, hx⟩ : ∃ x, l[i]? = some x := ⟨_, List.getElem?_eq_getElem (by rw [← HN.out]; exact hlt)⟩
      obtain ⟨b, o, vs, rfl, hgb, hbw0, hvl, hRx, hcs⟩ := HV.out.at i x hx
      have hE : EltS b (o + i * 2) vs wr := EltS.below (w := w) hcs hbw0 HB.out
      have hbw : b < wr.heap.size := Nat.lt_of_lt_of_le hbw0 HB.out.size
      obtain ⟨v0, v1, rfl⟩ := len_2 hvl
      obtain ⟨he, hx1, hx2⟩ := hRx
      obtain ⟨rfl, rfl⟩ : v0 = .int .i64 x.1 ∧ v1 = .int .i64 x.2 := by simpa using he
      obtain ⟨L0, hL0⟩ : ∃ L, L = encN (n : Int) ++ (l.take i).flatMap twoE := ⟨_, rfl⟩
      obtain ⟨P1, hP1⟩ : ∃ P, P = [x.1, x.2].flatMap encN := ⟨_, rfl⟩
      have C1 : Hid (∀ (W : World) (g : Nat), (∀ (j : Nat) (y : Int), [x.1, x.2][j]? = some y → W.cell? ⟨g, j, none⟩ = some (.int .i64 y)) → Calls Tryz.prog 67 #[.slice (some ⟨g, 0, none⟩) 2 2] W (StrE W P1)) := Lib.hid (fun W g h => by rw [hP1]; exact nums67 [x.1, x.2] g 2 W h (by simp only [List.mem_cons, List.not_mem_nil, or_false]; rintro m (rfl | rfl) <;> assumption) (by simp))
      have HT : Hid (L0 ++ P1 = encN (n : Int) ++ (l.take (i + 1)).flatMap twoE) := Lib.hid (by
        rw [take_flat twoE hx, ← List.append_assoc, ← hL0, hP1]
        simp [twoE, seqE])
      have hll : (L0 ++ P1).length ≤ 1099511627776 := by
        rw [HT.out]
        have h2 := HZ.out
        have h3 := take_flat_le twoE l (i + 1)
        rw [List.length_append] at h2 ⊢
        omega
      obtain ⟨Q1, hQ1⟩ : ∃ Q, Q = L0 ++ P1 := ⟨_, rfl⟩
      have ka1 := addL L0 P1 (by simp only [List.length_append] at hll ⊢; omega)
      rw [← hQ1] at ka1
      rw [← hQ1] at HT
      rw [← hL0]
      clear hx hcs hgb hbw0 hL0 hP1 hQ1 hll
      go_upto_region 5 with fail
      replace hE := hE.drew
      replace HB := Lib.hid HB.out.drew
      refine wp_region_seq (S := EltS b (o + i * 2) [.int .i64 x.1, .int .i64 x.2]) [(true, 0), (true, 1), (true, 2), (true, 3), (true, 4), (true, 5), (true, 6), (true, 7), (true, 8), (true, 9), (true, 10), (false, 11), (false, 12), (true, 13), (true, 14)] (by kernel_rfl) (by kernel_rfl) hE ?_
      simp only [pickL, List.getElem?_cons_succ, List.getElem?_cons_zero]
      refine sq_load (.string (mkB (L0))) (fun w' hS => by go_simp) ?_
      simp only [Act.put, List.setIfInBounds_toArray, List.set_cons_zero, List.set_cons_succ]
      refine sq_load (.slice (some ⟨b, o, none⟩) n cp) (fun w' hS => by go_simp) ?_
      simp only [Act.put, List.setIfInBounds_toArray, List.set_cons_zero, List.set_cons_succ]
      refine sq_load (.int .i64 (i : Int)) (fun w' hS => by go_simp) ?_
      simp only [Act.put, List.setIfInBounds_toArray, List.set_cons_zero, List.set_cons_succ]
      refine sq_load (.pointer (some ⟨b, o + i * 2, none⟩)) (fun w' hS => by go_simp) ?_
      simp only [Act.put, List.setIfInBounds_toArray, List.set_cons_zero, List.set_cons_succ]
      refine sq_load (.pointer (some ⟨b, o + i * 2, none⟩)) (fun w' hS => by go_simp) ?_
      simp only [Act.put, List.setIfInBounds_toArray, List.set_cons_zero, List.set_cons_succ]
      refine sq_load (.int .i64 x.1) (fun w' hS => by have q := hS 0 (.int .i64 x.1) rfl; simp only [Nat.add_zero] at q; go_simp) ?_
      simp only [Act.put, List.setIfInBounds_toArray, List.set_cons_zero, List.set_cons_succ]
      refine sq_load (.slice (some ⟨b, o, none⟩) n cp) (fun w' hS => by go_simp) ?_
      simp only [Act.put, List.setIfInBounds_toArray, List.set_cons_zero, List.set_cons_succ]
      refine sq_load (.int .i64 (i : Int)) (fun w' hS => by go_simp) ?_
      simp only [Act.put, List.setIfInBounds_toArray, List.set_cons_zero, List.set_cons_succ]
      refine sq_load (.pointer (some ⟨b, o + i * 2, none⟩)) (fun w' hS => by go_simp) ?_
      simp only [Act.put, List.setIfInBounds_toArray, List.set_cons_zero, List.set_cons_succ]
      refine sq_load (.pointer (some ⟨b, o + i * 2 + 1, none⟩)) (fun w' hS => by go_simp) ?_
      simp only [Act.put, List.setIfInBounds_toArray, List.set_cons_zero, List.set_cons_succ]
      refine sq_load (.int .i64 x.2) (fun w' hS => by have q := hS 1 (.int .i64 x.2) rfl; go_simp) ?_
      simp only [Act.put, List.setIfInBounds_toArray, List.set_cons_zero, List.set_cons_succ]
      refine sq_value (.slice (some ⟨wr.heap.size, 0, none⟩) 2 2) (wr.drew.alloc (.cells #[.int .i64 x.1, .int .i64 x.2] 3)) (by go_simp) ?_ ?_
      · exact hE.alloc hbw _
      simp only [Act.put, List.setIfInBounds_toArray, List.set_cons_zero, List.set_cons_succ]
      refine sq_call 67 #[.slice (some ⟨wr.heap.size, 0, none⟩) 2 2] (by go_simp) ?_
      refine Calls.mono (C1.out _ wr.heap.size (fun j x hj => (blk_cell (heap_alloc_new _ _) j).trans (by rw [List.getElem?_toArray]; exact intV_get hj))) ?_
      rintro e wx1 ⟨rfl, hb1⟩
      replace hb1 := ((Below.refl _ _).alloc (Nat.le_refl _) (.cells #[.int .i64 x.1, .int .i64 x.2] 3)).trans (hb1.mono (by simp))
      replace hE := hE.below hbw hb1
      replace HB := Lib.hid (HB.out.trans (hb1.mono HB.out.size))
      replace hbw := Nat.lt_of_lt_of_le hbw hb1.size
      clear hb1
      refine ⟨_, rfl, hE, ?_⟩
      simp only [Act.put, List.setIfInBounds_toArray, List.set_cons_zero, List.set_cons_succ]
      refine sq_load (.string (mkB (Q1))) (fun w' hS => by go_simp) ?_
      simp only [Act.put, List.setIfInBounds_toArray, List.set_cons_zero, List.set_cons_succ]
      refine sq_load (.string (mkB (Q1))) (fun w' hS => by go_simp) ?_
      simp only [Act.put, List.setIfInBounds_toArray, List.set_cons_zero, List.set_cons_succ]
      refine sq_done ?_
      clear ka1 C1 hE
      go_wp2_with fail
      go_roundw
      case rel => exact ⟨i + 1, by go_num, by omega, by rw [HT.out], HB⟩
      case measure => simp [intOf]; omega
    · have hii : i = n := by omega
      subst hii
      have hlt' : ¬ (i : Int) < (i : Int) := by omega
      have etk : l.take i = l := List.take_of_length_le (by rw [← HN.out]; exact Nat.le_refl _)
      have HE : Hid ((l.take i).flatMap twoE = l.flatMap twoE) := Lib.hid (by rw [etk])
      clear etk
      go_wp2_with fail
      go_ret
      exact ⟨by rw [HE.out]; rfl, HB.out⟩
end Go.Proofs.YtmhhcfceikcfbaaGreat
