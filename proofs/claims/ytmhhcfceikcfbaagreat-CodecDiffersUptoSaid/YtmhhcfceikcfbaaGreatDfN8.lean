/- Walks: what stands behind a percent sign. -/
import Derived.Test.YtmhhcfceikcfbaaGreatDfN6
namespace Go.Proofs.YtmhhcfceikcfbaaGreat
open Go.RowKit
abbrev pp : ByteArray := ⟨#[37, 37]⟩
abbrev pd : ByteArray := ⟨#[37, 100]⟩
def atQ (q : ScQ) (a : Int) : ScQ := ⟨a, q.lit, q.L, q.pl, q.e⟩
def errQ (q : ScQ) (e : Int) : ScQ := ⟨q.at_, q.lit, q.L, q.pl, e⟩
theorem digB_at {s : ByteArray} {k : Nat} (h : digB s k = true) : ∃ (hlt : k < s.size), s[k]! = s[k] ∧ 49 ≤ (s[k]).toNat ∧ (s[k]).toNat ≤ 57 := by
 unfold digB at h
 by_cases hlt : k < s.size
 ·rw [getElem?_pos s k hlt] at h
  simp at h
  exact ⟨hlt, getElem!_pos s k hlt, h.1, h.2⟩
 ·rw [getElem?_neg s k hlt] at h
  cases h
def pctQ (s : ByteArray) (k : Nat) (q : ScQ) : ScQ :=
 if pfxB (s.extract k s.size) pp = true then ⟨(k : Int) + 2, q.lit ++ [37], q.L, q.pl, q.e⟩ else
 if digB s (k + 1) = true then atQ (placeQ q (s[k + 1]!) false) ((k : Int) + 2) else
 if (pfxB (s.extract k s.size) pd && digB s (k + 2)) = true then atQ (placeQ q (s[k + 2]!) true) ((k : Int) + 3) else errQ q 14
/-- The scanner moved on: 'c.at += n'. -/
theorem ScAt.move {c : Nat} {s : ByteArray} {q : ScQ} {pv bv lv : Value} {w w' : World} (h : ScAt c s q pv bv lv w) (a : Int) (hb : w'.heap[c]? = some (.cells #[.string s, .int .i64 a, pv, bv, lv, .int .i64 q.pl, .int .i64 q.e] 307 (0, 0))) (hg : w.grownBy w' (some c)) : ScAt c s (atQ q a) pv bv lv w' := h.store a q.pl q.e hb h.pv hg
theorem ScAt.drew {c : Nat} {s : ByteArray} {q : ScQ} {pv bv lv : Value} {w : World} (h : ScAt c s q pv bv lv w) : ScAt c s q pv bv lv w.drew := ⟨h.blk, h.pv, h.lit.drew, h.prt.drew⟩
theorem sz23 : (Tryz.prog.info? 23).map (·.size) = some 1 := by kernel_rfl
theorem ScAt.fail {c : Nat} {s : ByteArray} {q : ScQ} {k : Int} {pv bv lv : Value} {w w' : World} {e : Int} (h : ScAt c s q pv bv lv w) (hat : q.at_ = k) (hb : w'.heap[c]? = some (.cells #[.string s, .int .i64 k, pv, bv, lv, .int .i64 q.pl, .int .i64 e] 307 (0, 0))) (hg : w.grownBy w' (some c)) : ScAt c s (errQ q e) pv bv lv w' := h.store q.at_ q.pl e (by rw [hat]; exact hb) h.pv hg
set_option maxRecDepth 100000 in
set_option maxHeartbeats 4000000 in
theorem percent230 (c : Nat) (s : ByteArray) (q : ScQ) (pv bv lv : Value) (k : Nat) (w : World) (h : ScAt c s q pv bv lv w) (hat : q.at_ = (k : Int)) (hks : k < s.size) (hs : s.size ≤ 1000) (hl : q.lit.length ≤ 500) (hL : q.L.length ≤ 400) (hp : 0 ≤ q.pl ∧ q.pl ≤ 900) : Calls Tryz.prog 230 #[.pointer (some ⟨c, 0, none⟩)] w (RetS c s (pctQ s k q) w) := by
 have hcb := h.blk
 rw [hat] at hcb
 have HS := Lib.hid h
 have HB := Lib.hid (Below.refl w.heap.size w)
 have hkI : ¬ (k : Int) < 0 := by omega
 have hkS : (k : Int) ≤ (s.size : Int) := by omega
 have ek1 : IntKind.i64.wrap ((k : Int) + 1) = (k : Int) + 1 := IntWalk.i64_in _ (by omega)
 have ek1' : wrap64 ((k : Int) + 1) = (k : Int) + 1 := IntWalk.wrap64_in _ (by omega)
 have ek2 : IntKind.i64.wrap ((k : Int) + 2) = (k : Int) + 2 := IntWalk.i64_in _ (by omega)
 have ek2' : wrap64 ((k : Int) + 2) = (k : Int) + 2 := IntWalk.wrap64_in _ (by omega)
 have ek3 : IntKind.i64.wrap ((k : Int) + 3) = (k : Int) + 3 := IntWalk.i64_in _ (by omega)
 have ek3' : wrap64 ((k : Int) + 3) = (k : Int) + 3 := IntWalk.wrap64_in _ (by omega)
 clear h
 go_enter Tryz.func230, Tryz.ntmps230
 go_upto_region 1 with fail
 replace hcb : w.drew.heap[c]? = some (.cells #[.string s, .int .i64 (k : Int), pv, bv, lv, .int .i64 q.pl, .int .i64 q.e] 307 (0, 0)) := hcb
 replace HB := Lib.hid HB.out.drew
 refine wp_region_seq (S := fun w' => w'.heap[c]? = some (.cells #[.string s, .int .i64 (k : Int), pv, bv, lv, .int .i64 q.pl, .int .i64 q.e] 307 (0, 0))) [(true, 0), (true, 1), (true, 2), (true, 3), (true, 4), (true, 5), (true, 6), (true, 7), (true, 8), (false, 9), (true, 10)] (by kernel_rfl) (by kernel_rfl) hcb ?_
 simp only [pickL, List.getElem?_cons_succ, List.getElem?_cons_zero]
 refine sq_load (.pointer (some ⟨c, 0, none⟩)) (fun w' hS => by go_simp) ?_
 simp only [Act.put, PutA, PutZ, PutS]
 refine sq_load (.pointer (some ⟨c, 0, none⟩)) (fun w' hS => by go_simp) ?_
 simp only [Act.put, PutA, PutZ, PutS]
 refine sq_load (.pointer (some ⟨c, 0, none⟩)) (fun w' hS => by go_simp) ?_
 simp only [Act.put, PutA, PutZ, PutS]
 refine sq_load (.string s) (fun w' hS => by have q0 := blk_cell hS 0; go_simp) ?_
 simp only [Act.put, PutA, PutZ, PutS]
 refine sq_load (.pointer (some ⟨c, 0, none⟩)) (fun w' hS => by go_simp) ?_
 simp only [Act.put, PutA, PutZ, PutS]
 refine sq_load (.pointer (some ⟨c, 0, none⟩)) (fun w' hS => by go_simp) ?_
 simp only [Act.put, PutA, PutZ, PutS]
 refine sq_load (.pointer (some ⟨c, 1, none⟩)) (fun w' hS => by go_simp) ?_
 simp only [Act.put, PutA, PutZ, PutS]
 refine sq_load (.int .i64 (k : Int)) (fun w' hS => by have q0 := blk_cell hS 1; go_simp) ?_
 simp only [Act.put, PutA, PutZ, PutS]
 refine sq_load (.string (s.extract k s.size)) (fun w' hS => by go_simp) ?_
 simp only [Act.put, PutA, PutZ, PutS]
 refine sq_call 90 #[.string (s.extract k s.size), .string ⟨#[37, 37]⟩] (by go_simp) ?_
 refine Calls.mono (pfx90 _ ⟨#[37, 37]⟩ _) ?_
 rintro e wp1 ⟨rfl, rfl⟩
 refine ⟨_, rfl, hcb, ?_⟩
 simp only [Act.put, PutA, PutZ, PutS]
 refine sq_load (.bool (pfxB (s.extract k s.size) ⟨#[37, 37]⟩)) (fun w' hS => by go_simp) ?_
 simp only [Act.put, PutA, PutZ, PutS]
 refine sq_done ?_
 obtain ⟨q1, hq1⟩ : ∃ q, q = pfxB (s.extract k s.size) ⟨#[37, 37]⟩ := ⟨_, rfl⟩
 rw [← hq1]
 have HQ1 := Lib.hid hq1
 clear hq1
 cases q1
 case true =>
  have HQ := Lib.hid (show pctQ s k q = atQ ⟨q.at_, q.lit ++ [37], q.L, q.pl, q.e⟩ ((k : Int) + 2) by unfold pctQ; rw [if_pos HQ1.out.symm]; rfl)
  have C := Lib.hid (byte231 c s q pv bv lv 37 w.drew ⟨HS.out.blk, HS.out.pv, HS.out.lit.drew, HS.out.prt.drew⟩ (by omega))
  clear hcb
  go_wp2_with fail
  refine C.out.mono ?_
  rintro e w1 ⟨rfl, hs1, hb1⟩
  have HB1 : Hid (Below c w w1) := Lib.hid ((Below.refl c w).drew.trans hb1)
  have hat1 := hat
  clear C hb1
  obtain ⟨pv2, bv2, lv2, h1⟩ := hs1
  have hat1 : (ScQ.mk q.at_ (q.lit ++ [37]) q.L q.pl q.e).at_ = (k : Int) := hat1
  have hc1 := h1.blk
  rw [hat1] at hc1
  have H1 := Lib.hid h1
  clear h1 hat1
  go_upto_region 3 with fail
  refine wp_region_seq0 (by rfl) ?_
  simp only [List.map]
  refine sq_pure (.pointer (some ⟨c, 0, none⟩)) (by go_simp) trivial ?_
  simp only [Act.put, PutA, PutZ, PutS]
  refine sq_pure (.pointer (some ⟨c, 0, none⟩)) (by go_simp) trivial ?_
  simp only [Act.put, PutA, PutZ, PutS]
  refine sq_pure (.pointer (some ⟨c, 1, none⟩)) (by go_simp) trivial ?_
  simp only [Act.put, PutA, PutZ, PutS]
  refine sq_pure (.int .i64 (k : Int)) (by have q0 := blk_cell hc1 1; go_simp) trivial ?_
  simp only [Act.put, PutA, PutZ, PutS]
  refine sq_pure (.int .i64 ((k : Int) + 2)) (by go_simp) trivial ?_
  simp only [Act.put, PutA, PutZ, PutS]
  refine sq_pure (.pointer (some ⟨c, 0, none⟩)) (by go_simp) trivial ?_
  simp only [Act.put, PutA, PutZ, PutS]
  refine sq_pure (.pointer (some ⟨c, 1, none⟩)) (by go_simp) trivial ?_
  simp only [Act.put, PutA, PutZ, PutS]
  refine sq_store 3 _ _ rfl rfl c 1 307 _ #[.string s, .int .i64 ((k : Int) + 2), pv2, bv2, lv2, .int .i64 (ScQ.mk q.at_ (q.lit ++ [37]) q.L q.pl q.e).pl, .int .i64 (ScQ.mk q.at_ (q.lit ++ [37]) q.L q.pl q.e).e] [.int .i64 ((k : Int) + 2)] rfl rfl hc1 sz3 (one1 rfl) rfl (by simp) ?_
  intro wm hst hgr
  refine ⟨trivial, ?_⟩
  have HF : Hid (ScP c s (pctQ s k q) w wm) := Lib.hid (by rw [HQ.out]; exact ⟨⟨_, _, _, H1.out.move _ hst hgr⟩, below_c HB1.out hgr (lt_of_blk hc1)⟩)
  clear hst hgr hc1 H1
  refine sq_done ?_
  go_wp2_with fail
  go_end0
  exact ⟨rfl, HF.out⟩
 case false =>
  have C2 := Lib.hid (digit233 c s _ _ _ _ _ _ (k + 1) w.drew hcb)
  rw [show (((k + 1 : Nat) : Int)) = (k : Int) + 1 by omega] at C2
  have z1 := blk_cell hcb 1
  obtain ⟨q2, hq2⟩ : ∃ q, q = digB s (k + 1) := ⟨_, rfl⟩
  rw [← hq2] at C2
  have HD1 := Lib.hid hq2
  clear hq2
  go_wp2_with fail
  refine C2.out.mono ?_
  rintro e w1 ⟨rfl, rfl⟩
  clear C2 z1
  cases q2
  case true =>
   obtain ⟨hlt, hd0, hd1, hd2⟩ := digB_at HD1.out.symm
   obtain ⟨d, hd⟩ : ∃ d, d = s[k + 1] := ⟨_, rfl⟩
   rw [← hd] at hd0 hd1 hd2
   have hgd : s[k + 1] = d := hd.symm
   have hwlt : ((k + 1 : Nat) : Int) < (s.size : Int) := by clear ek1 ek1' ek2 ek2' ek3 ek3'; omega
   have hwlt2 : (k : Int) + 1 < (s.size : Int) := by clear ek1 ek1' ek2 ek2' ek3 ek3'; omega
   have hwlt3 : ¬ (k : Int) + 1 < 0 := by clear ek1 ek1' ek2 ek2' ek3 ek3'; omega
   have htn : ((k : Int) + 1).toNat = k + 1 := by clear ek1 ek1' ek2 ek2' ek3 ek3'; omega
   have HQ := Lib.hid (show pctQ s k q = atQ (placeQ q d false) ((k : Int) + 2) by
    unfold pctQ
    rw [if_neg (fun e => Bool.noConfusion (HQ1.out.trans e)), if_pos HD1.out.symm, hd0])
   have C := Lib.hid (place234 c s q pv bv lv d false w.drew.drew ⟨HS.out.blk, HS.out.pv, HS.out.lit.drew.drew, HS.out.prt.drew.drew⟩ (by clear ek1 ek1' ek2 ek2' ek3 ek3'; omega) (by clear ek1 ek1' ek2 ek2' ek3 ek3'; omega) ⟨hd1, hd2⟩)
   clear hd hd0 hd1 hd2
   go_upto_region 5 with fail
   refine wp_region_seq (S := fun w' => w'.cell? ⟨c, 0, none⟩ = some (.string s) ∧ w'.cell? ⟨c, 1, none⟩ = some (.int .i64 (k : Int))) [(true, 0), (true, 1), (true, 2), (true, 3), (true, 4), (true, 5), (true, 6), (true, 7), (true, 8), (true, 9), (false, 10), (false, 11)] (by kernel_rfl) (by kernel_rfl) ⟨blk_cell hcb 0, blk_cell hcb 1⟩ ?_
   simp only [pickL, List.getElem?_cons_succ, List.getElem?_cons_zero]
   refine sq_load (.pointer (some ⟨c, 0, none⟩)) (fun w' hS => by go_simp) ?_
   simp only [Act.put, PutA, PutZ, PutS]
   refine sq_load (.pointer (some ⟨c, 0, none⟩)) (fun w' hS => by go_simp) ?_
   simp only [Act.put, PutA, PutZ, PutS]
   refine sq_load (.pointer (some ⟨c, 0, none⟩)) (fun w' hS => by go_simp) ?_
   simp only [Act.put, PutA, PutZ, PutS]
   refine sq_load (.pointer (some ⟨c, 0, none⟩)) (fun w' hS => by go_simp) ?_
   simp only [Act.put, PutA, PutZ, PutS]
   refine sq_load (.string s) (fun w' hS => by have q0 := hS.1; go_simp) ?_
   simp only [Act.put, PutA, PutZ, PutS]
   refine sq_load (.pointer (some ⟨c, 0, none⟩)) (fun w' hS => by go_simp) ?_
   simp only [Act.put, PutA, PutZ, PutS]
   refine sq_load (.pointer (some ⟨c, 0, none⟩)) (fun w' hS => by go_simp) ?_
   simp only [Act.put, PutA, PutZ, PutS]
   refine sq_load (.pointer (some ⟨c, 1, none⟩)) (fun w' hS => by go_simp) ?_
   simp only [Act.put, PutA, PutZ, PutS]
   refine sq_load (.int .i64 (k : Int)) (fun w' hS => by have q0 := hS.2; go_simp) ?_
   simp only [Act.put, PutA, PutZ, PutS]
   refine sq_load (.int .i64 ((k : Int) + 1)) (fun w' hS => by go_simp) ?_
   simp only [Act.put, PutA, PutZ, PutS]
   refine sq_pure (.int .u8 (d.toNat : Int)) (by go_simp) ⟨blk_cell hcb 0, blk_cell hcb 1⟩ ?_
   simp only [Act.put, PutA, PutZ, PutS]
   refine sq_call 234 #[.pointer (some ⟨c, 0, none⟩), .int .u8 (d.toNat : Int), .bool false] (by go_simp) ?_
   refine C.out.mono ?_
   rintro e w1 ⟨rfl, hs1, hb1⟩
   have HB1 : Hid (Below c w w1) := Lib.hid (((Below.refl c w).drew.drew).trans hb1)
   have hat1 := (show (placeQ q d false).at_ = q.at_ by unfold placeQ flushQ; split <;> rfl).trans hat
   have hS1 : w1.cell? ⟨c, 0, none⟩ = some (.string s) ∧ w1.cell? ⟨c, 1, none⟩ = some (.int .i64 (k : Int)) := by
    obtain ⟨_, _, _, h1⟩ := hs1
    exact ⟨blk_cell h1.blk 0, (blk_cell h1.blk 1).trans (by rw [hat1]; rfl)⟩
   clear C hb1 hcb
   refine ⟨_, rfl, hS1, ?_⟩
   simp only [Act.put, PutA, PutZ, PutS]
   refine sq_done ?_
   clear hS1
   obtain ⟨pv2, bv2, lv2, h1⟩ := hs1
   have hat1 : (placeQ q d false).at_ = (k : Int) := hat1
   have hc1 := h1.blk
   rw [hat1] at hc1
   have H1 := Lib.hid h1
   clear h1 hat1
   go_upto_region 6 with fail
   refine wp_region_seq0 (by rfl) ?_
   simp only [List.map]
   refine sq_pure (.pointer (some ⟨c, 0, none⟩)) (by go_simp) trivial ?_
   simp only [Act.put, PutA, PutZ, PutS]
   refine sq_pure (.pointer (some ⟨c, 0, none⟩)) (by go_simp) trivial ?_
   simp only [Act.put, PutA, PutZ, PutS]
   refine sq_pure (.pointer (some ⟨c, 1, none⟩)) (by go_simp) trivial ?_
   simp only [Act.put, PutA, PutZ, PutS]
   refine sq_pure (.int .i64 (k : Int)) (by have q0 := blk_cell hc1 1; go_simp) trivial ?_
   simp only [Act.put, PutA, PutZ, PutS]
   refine sq_pure (.int .i64 ((k : Int) + 2)) (by go_simp) trivial ?_
   simp only [Act.put, PutA, PutZ, PutS]
   refine sq_pure (.pointer (some ⟨c, 0, none⟩)) (by go_simp) trivial ?_
   simp only [Act.put, PutA, PutZ, PutS]
   refine sq_pure (.pointer (some ⟨c, 1, none⟩)) (by go_simp) trivial ?_
   simp only [Act.put, PutA, PutZ, PutS]
   refine sq_store 3 _ _ rfl rfl c 1 307 _ #[.string s, .int .i64 ((k : Int) + 2), pv2, bv2, lv2, .int .i64 (placeQ q d false).pl, .int .i64 (placeQ q d false).e] [.int .i64 ((k : Int) + 2)] rfl rfl hc1 sz3 (one1 rfl) rfl (by simp) ?_
   intro wm hst hgr
   refine ⟨trivial, ?_⟩
   have HF : Hid (ScP c s (pctQ s k q) w wm) := Lib.hid (by rw [HQ.out]; exact ⟨⟨_, _, _, H1.out.move _ hst hgr⟩, below_c HB1.out hgr (lt_of_blk hc1)⟩)
   clear hst hgr hc1 H1
   refine sq_done ?_
   go_wp2_with fail
   go_end0
   exact ⟨rfl, HF.out⟩
  case false =>
   obtain ⟨q3, hq3⟩ : ∃ q, q = pfxB (s.extract k s.size) ⟨#[37, 100]⟩ := ⟨_, rfl⟩
   have C3 : Hid (∀ W, Calls Tryz.prog 90 #[.string (s.extract k s.size), .string ⟨#[37, 100]⟩] W fun e w' => e = .returned (.bool q3) ∧ W = w') := Lib.hid (fun W => by rw [hq3]; exact pfx90 _ _ W)
   have HQ3 := Lib.hid hq3
   obtain ⟨q4, hq4⟩ : ∃ q, q = digB s (k + 2) := ⟨_, rfl⟩
   have C4 : Hid (∀ W, W.heap[c]? = some (.cells #[.string s, .int .i64 (k : Int), pv, bv, lv, .int .i64 q.pl, .int .i64 q.e] 307 (0, 0)) → Calls Tryz.prog 233 #[.pointer (some ⟨c, 0, none⟩), .int .i64 ((k : Int) + 2)] W fun e w' => e = .returned (.bool q4) ∧ W = w') := Lib.hid (fun W hW => by rw [hq4]; exact digit233 c s _ _ _ _ _ _ (k + 2) W hW)
   have HD2 := Lib.hid hq4
   clear hq3 hq4
   cases q3
   case false =>
    go_upto_region 7 with fail
    replace hcb : w.drew.heap[c]? = some (.cells #[.string s, .int .i64 (k : Int), pv, bv, lv, .int .i64 q.pl, .int .i64 q.e] 307 (0, 0)) := hcb
    replace HB := Lib.hid HB.out.drew
    refine wp_region_guard (S := fun w' => w'.heap[c]? = some (.cells #[.string s, .int .i64 (k : Int), pv, bv, lv, .int .i64 q.pl, .int .i64 q.e] 307 (0, 0))) [(true, 0), (true, 1), (true, 2), (true, 3), (true, 4), (true, 5), (true, 6), (true, 7), (true, 8), (false, 9), (true, 10), (true, 11), (true, 12), (true, 13), (true, 14), (true, 15), (true, 16), (false, 17), (true, 18), (true, 19)] (by kernel_rfl) (by kernel_rfl) hcb ?_
    simp only [pickL, List.getElem?_cons_succ, List.getElem?_cons_zero]
    refine hd_load (.pointer (some ⟨c, 0, none⟩)) rfl (fun w' hS => by go_simp) ?_
    simp only [Act.put, PutA, PutZ, PutS]
    refine hd_load (.pointer (some ⟨c, 0, none⟩)) rfl (fun w' hS => by go_simp) ?_
    simp only [Act.put, PutA, PutZ, PutS]
    refine hd_load (.pointer (some ⟨c, 0, none⟩)) rfl (fun w' hS => by go_simp) ?_
    simp only [Act.put, PutA, PutZ, PutS]
    refine hd_load (.string s) rfl (fun w' hS => by have q0 := blk_cell hS 0; go_simp) ?_
    simp only [Act.put, PutA, PutZ, PutS]
    refine hd_load (.pointer (some ⟨c, 0, none⟩)) rfl (fun w' hS => by go_simp) ?_
    simp only [Act.put, PutA, PutZ, PutS]
    refine hd_load (.pointer (some ⟨c, 0, none⟩)) rfl (fun w' hS => by go_simp) ?_
    simp only [Act.put, PutA, PutZ, PutS]
    refine hd_load (.pointer (some ⟨c, 1, none⟩)) rfl (fun w' hS => by go_simp) ?_
    simp only [Act.put, PutA, PutZ, PutS]
    refine hd_load (.int .i64 (k : Int)) rfl (fun w' hS => by have q0 := blk_cell hS 1; go_simp) ?_
    simp only [Act.put, PutA, PutZ, PutS]
    refine hd_load (.string (s.extract k s.size)) rfl (fun w' hS => by go_simp) ?_
    simp only [Act.put, PutA, PutZ, PutS]
    refine hd_run rfl ?_
    refine sq_call 90 #[.string (s.extract k s.size), .string ⟨#[37, 100]⟩] (by go_simp) ?_
    refine Calls.mono (C3.out _) ?_
    rintro e wp1 ⟨rfl, rfl⟩
    refine ⟨_, rfl, hcb, ?_⟩
    refine sq_done ?_
    simp only [Act.put, PutA, PutZ, PutS]
    refine hd_load (.bool false) rfl (fun w' hS => by go_simp) ?_
    simp only [Act.put, PutA, PutZ, PutS]
    refine hd_off rfl ?_
    simp only [Act.put, PutA, PutZ, PutS]
    refine hd_off rfl ?_
    simp only [Act.put, PutA, PutZ, PutS]
    refine hd_off rfl ?_
    simp only [Act.put, PutA, PutZ, PutS]
    refine hd_off rfl ?_
    simp only [Act.put, PutA, PutZ, PutS]
    refine hd_off rfl ?_
    simp only [Act.put, PutA, PutZ, PutS]
    refine hd_off rfl ?_
    simp only [Act.put, PutA, PutZ, PutS]
    refine hd_offs rfl hcb ?_
    simp only [Act.put, PutA, PutZ, PutS]
    refine hd_load (.bool false) rfl (fun w' hS => by go_simp) ?_
    simp only [Act.put, PutA, PutZ, PutS]
    refine hd_load (.bool false) rfl (fun w' hS => by go_simp) ?_
    simp only [Act.put, PutA, PutZ, PutS]
    refine hd_done ?_
    have HQ := Lib.hid (show pctQ s k q = errQ q 14 by
     unfold pctQ
     rw [if_neg (fun e => Bool.noConfusion (HQ1.out.trans e)), if_neg (fun e => Bool.noConfusion (HD1.out.trans e)), if_neg (by rw [← HQ3.out]; simp)])
    go_upto_region 0 with fail
    refine wp_region_seq0 (by rfl) ?_
    simp only [List.map]
    refine sq_pure (.pointer (some ⟨c, 0, none⟩)) (by go_simp) trivial ?_
    simp only [Act.put, PutA, PutZ, PutS]
    refine sq_pure (.pointer (some ⟨c, 0, none⟩)) (by go_simp) trivial ?_
    simp only [Act.put, PutA, PutZ, PutS]
    refine sq_pure (.pointer (some ⟨c, 6, none⟩)) (by go_simp) trivial ?_
    simp only [Act.put, PutA, PutZ, PutS]
    refine sq_store 23 _ _ rfl rfl c 6 307 _ #[.string s, .int .i64 (k : Int), pv, bv, lv, .int .i64 q.pl, .int .i64 14] [.int .i64 14] rfl rfl hcb sz23 (one1 rfl) rfl (by simp) ?_
    intro wm hst hgr
    refine ⟨trivial, ?_⟩
    have HF : Hid (ScP c s (pctQ s k q) w wm) := Lib.hid (by
     rw [HQ.out]
     exact ⟨⟨_, _, _, HS.out.drew.drew.fail hat hst hgr⟩, below_c (Below.refl c w).drew.drew hgr (lt_of_blk hcb)⟩)
    clear hst hgr hcb
    refine sq_done ?_
    go_wp2_with fail
    go_end0
    exact ⟨rfl, HF.out⟩
   case true =>
    go_upto_region 7 with fail
    replace hcb : w.drew.heap[c]? = some (.cells #[.string s, .int .i64 (k : Int), pv, bv, lv, .int .i64 q.pl, .int .i64 q.e] 307 (0, 0)) := hcb
    replace HB := Lib.hid HB.out.drew
    refine wp_region_guard (S := fun w' => w'.heap[c]? = some (.cells #[.string s, .int .i64 (k : Int), pv, bv, lv, .int .i64 q.pl, .int .i64 q.e] 307 (0, 0))) [(true, 0), (true, 1), (true, 2), (true, 3), (true, 4), (true, 5), (true, 6), (true, 7), (true, 8), (false, 9), (true, 10), (true, 11), (true, 12), (true, 13), (true, 14), (true, 15), (true, 16), (false, 17), (true, 18), (true, 19)] (by kernel_rfl) (by kernel_rfl) hcb ?_
    simp only [pickL, List.getElem?_cons_succ, List.getElem?_cons_zero]
    refine hd_load (.pointer (some ⟨c, 0, none⟩)) rfl (fun w' hS => by go_simp) ?_
    simp only [Act.put, PutA, PutZ, PutS]
    refine hd_load (.pointer (some ⟨c, 0, none⟩)) rfl (fun w' hS => by go_simp) ?_
    simp only [Act.put, PutA, PutZ, PutS]
    refine hd_load (.pointer (some ⟨c, 0, none⟩)) rfl (fun w' hS => by go_simp) ?_
    simp only [Act.put, PutA, PutZ, PutS]
    refine hd_load (.string s) rfl (fun w' hS => by have q0 := blk_cell hS 0; go_simp) ?_
    simp only [Act.put, PutA, PutZ, PutS]
    refine hd_load (.pointer (some ⟨c, 0, none⟩)) rfl (fun w' hS => by go_simp) ?_
    simp only [Act.put, PutA, PutZ, PutS]
    refine hd_load (.pointer (some ⟨c, 0, none⟩)) rfl (fun w' hS => by go_simp) ?_
    simp only [Act.put, PutA, PutZ, PutS]
    refine hd_load (.pointer (some ⟨c, 1, none⟩)) rfl (fun w' hS => by go_simp) ?_
    simp only [Act.put, PutA, PutZ, PutS]
    refine hd_load (.int .i64 (k : Int)) rfl (fun w' hS => by have q0 := blk_cell hS 1; go_simp) ?_
    simp only [Act.put, PutA, PutZ, PutS]
    refine hd_load (.string (s.extract k s.size)) rfl (fun w' hS => by go_simp) ?_
    simp only [Act.put, PutA, PutZ, PutS]
    refine hd_run rfl ?_
    refine sq_call 90 #[.string (s.extract k s.size), .string ⟨#[37, 100]⟩] (by go_simp) ?_
    refine Calls.mono (C3.out _) ?_
    rintro e wp1 ⟨rfl, rfl⟩
    refine ⟨_, rfl, hcb, ?_⟩
    refine sq_done ?_
    simp only [Act.put, PutA, PutZ, PutS]
    refine hd_load (.bool true) rfl (fun w' hS => by go_simp) ?_
    simp only [Act.put, PutA, PutZ, PutS]
    refine hd_load (.pointer (some ⟨c, 0, none⟩)) rfl (fun w' hS => by go_simp) ?_
    simp only [Act.put, PutA, PutZ, PutS]
    refine hd_load (.pointer (some ⟨c, 0, none⟩)) rfl (fun w' hS => by go_simp) ?_
    simp only [Act.put, PutA, PutZ, PutS]
    refine hd_load (.pointer (some ⟨c, 0, none⟩)) rfl (fun w' hS => by go_simp) ?_
    simp only [Act.put, PutA, PutZ, PutS]
    refine hd_load (.pointer (some ⟨c, 1, none⟩)) rfl (fun w' hS => by go_simp) ?_
    simp only [Act.put, PutA, PutZ, PutS]
    refine hd_load (.int .i64 (k : Int)) rfl (fun w' hS => by have q0 := blk_cell hS 1; go_simp) ?_
    simp only [Act.put, PutA, PutZ, PutS]
    refine hd_load (.int .i64 ((k : Int) + 2)) rfl (fun w' hS => by go_simp) ?_
    simp only [Act.put, PutA, PutZ, PutS]
    refine hd_run rfl ?_
    refine sq_call 233 #[.pointer (some ⟨c, 0, none⟩), .int .i64 ((k : Int) + 2)] (by go_simp) ?_
    refine Calls.mono (C4.out _ hcb) ?_
    rintro e wp2 ⟨rfl, rfl⟩
    refine ⟨_, rfl, hcb, ?_⟩
    refine sq_done ?_
    simp only [Act.put, PutA, PutZ, PutS]
    refine hd_load (.bool q4) rfl (fun w' hS => by go_simp) ?_
    simp only [Act.put, PutA, PutZ, PutS]
    refine hd_load (.bool q4) rfl (fun w' hS => by go_simp) ?_
    simp only [Act.put, PutA, PutZ, PutS]
    refine hd_done ?_
    cases q4
    case false =>
     have HQ := Lib.hid (show pctQ s k q = errQ q 14 by
      unfold pctQ
      rw [if_neg (fun e => Bool.noConfusion (HQ1.out.trans e)), if_neg (fun e => Bool.noConfusion (HD1.out.trans e)), if_neg (by rw [← HQ3.out, ← HD2.out]; simp)])
     go_upto_region 0 with fail
     refine wp_region_seq0 (by rfl) ?_
     simp only [List.map]
     refine sq_pure (.pointer (some ⟨c, 0, none⟩)) (by go_simp) trivial ?_
     simp only [Act.put, PutA, PutZ, PutS]
     refine sq_pure (.pointer (some ⟨c, 0, none⟩)) (by go_simp) trivial ?_
     simp only [Act.put, PutA, PutZ, PutS]
     refine sq_pure (.pointer (some ⟨c, 6, none⟩)) (by go_simp) trivial ?_
     simp only [Act.put, PutA, PutZ, PutS]
     refine sq_store 23 _ _ rfl rfl c 6 307 _ #[.string s, .int .i64 (k : Int), pv, bv, lv, .int .i64 q.pl, .int .i64 14] [.int .i64 14] rfl rfl hcb sz23 (one1 rfl) rfl (by simp) ?_
     intro wm hst hgr
     refine ⟨trivial, ?_⟩
     have HF : Hid (ScP c s (pctQ s k q) w wm) := Lib.hid (by
      rw [HQ.out]
      exact ⟨⟨_, _, _, HS.out.drew.drew.fail hat hst hgr⟩, below_c (Below.refl c w).drew.drew hgr (lt_of_blk hcb)⟩)
     clear hst hgr hcb
     refine sq_done ?_
     go_wp2_with fail
     go_end0
     exact ⟨rfl, HF.out⟩
    case true =>
     obtain ⟨hlt, hd0, hd1, hd2⟩ := digB_at HD2.out.symm
     obtain ⟨d, hd⟩ : ∃ d, d = s[k + 2] := ⟨_, rfl⟩
     rw [← hd] at hd0 hd1 hd2
     have hgd : s[k + 2] = d := hd.symm
     have hwlt : ((k + 2 : Nat) : Int) < (s.size : Int) := by clear ek1 ek1' ek2 ek2' ek3 ek3'; omega
     have hwlt2 : (k : Int) + 2 < (s.size : Int) := by clear ek1 ek1' ek2 ek2' ek3 ek3'; omega
     have hwlt3 : ¬ (k : Int) + 2 < 0 := by clear ek1 ek1' ek2 ek2' ek3 ek3'; omega
     have htn : ((k : Int) + 2).toNat = k + 2 := by clear ek1 ek1' ek2 ek2' ek3 ek3'; omega
     have HQ := Lib.hid (show pctQ s k q = atQ (placeQ q d true) ((k : Int) + 3) by
      unfold pctQ
      rw [if_neg (fun e => Bool.noConfusion (HQ1.out.trans e)), if_neg (fun e => Bool.noConfusion (HD1.out.trans e)), if_pos (by rw [← HQ3.out, ← HD2.out]; rfl), hd0])
     have C := Lib.hid (place234 c s q pv bv lv d true w.drew.drew.drew ⟨HS.out.blk, HS.out.pv, HS.out.lit.drew.drew.drew, HS.out.prt.drew.drew.drew⟩ (by clear ek1 ek1' ek2 ek2' ek3 ek3'; omega) (by clear ek1 ek1' ek2 ek2' ek3 ek3'; omega) ⟨hd1, hd2⟩)
     clear hd hd0 hd1 hd2
     go_upto_region 8 with fail
     refine wp_region_seq (S := fun w' => w'.cell? ⟨c, 0, none⟩ = some (.string s) ∧ w'.cell? ⟨c, 1, none⟩ = some (.int .i64 (k : Int))) [(true, 0), (true, 1), (true, 2), (true, 3), (true, 4), (true, 5), (true, 6), (true, 7), (true, 8), (true, 9), (false, 10), (false, 11)] (by kernel_rfl) (by kernel_rfl) ⟨blk_cell hcb 0, blk_cell hcb 1⟩ ?_
     simp only [pickL, List.getElem?_cons_succ, List.getElem?_cons_zero]
     refine sq_load (.pointer (some ⟨c, 0, none⟩)) (fun w' hS => by go_simp) ?_
     simp only [Act.put, PutA, PutZ, PutS]
     refine sq_load (.pointer (some ⟨c, 0, none⟩)) (fun w' hS => by go_simp) ?_
     simp only [Act.put, PutA, PutZ, PutS]
     refine sq_load (.pointer (some ⟨c, 0, none⟩)) (fun w' hS => by go_simp) ?_
     simp only [Act.put, PutA, PutZ, PutS]
     refine sq_load (.pointer (some ⟨c, 0, none⟩)) (fun w' hS => by go_simp) ?_
     simp only [Act.put, PutA, PutZ, PutS]
     refine sq_load (.string s) (fun w' hS => by have q0 := hS.1; go_simp) ?_
     simp only [Act.put, PutA, PutZ, PutS]
     refine sq_load (.pointer (some ⟨c, 0, none⟩)) (fun w' hS => by go_simp) ?_
     simp only [Act.put, PutA, PutZ, PutS]
     refine sq_load (.pointer (some ⟨c, 0, none⟩)) (fun w' hS => by go_simp) ?_
     simp only [Act.put, PutA, PutZ, PutS]
     refine sq_load (.pointer (some ⟨c, 1, none⟩)) (fun w' hS => by go_simp) ?_
     simp only [Act.put, PutA, PutZ, PutS]
     refine sq_load (.int .i64 (k : Int)) (fun w' hS => by have q0 := hS.2; go_simp) ?_
     simp only [Act.put, PutA, PutZ, PutS]
     refine sq_load (.int .i64 ((k : Int) + 2)) (fun w' hS => by go_simp) ?_
     simp only [Act.put, PutA, PutZ, PutS]
     refine sq_pure (.int .u8 (d.toNat : Int)) (by go_simp) ⟨blk_cell hcb 0, blk_cell hcb 1⟩ ?_
     simp only [Act.put, PutA, PutZ, PutS]
     refine sq_call 234 #[.pointer (some ⟨c, 0, none⟩), .int .u8 (d.toNat : Int), .bool true] (by go_simp) ?_
     refine C.out.mono ?_
     rintro e w1 ⟨rfl, hs1, hb1⟩
     have HB1 : Hid (Below c w w1) := Lib.hid (((Below.refl c w).drew.drew.drew).trans hb1)
     have hat1 := (show (placeQ q d true).at_ = q.at_ by unfold placeQ flushQ; split <;> rfl).trans hat
     have hS1 : w1.cell? ⟨c, 0, none⟩ = some (.string s) ∧ w1.cell? ⟨c, 1, none⟩ = some (.int .i64 (k : Int)) := by
      obtain ⟨_, _, _, h1⟩ := hs1
      exact ⟨blk_cell h1.blk 0, (blk_cell h1.blk 1).trans (by rw [hat1]; rfl)⟩
     clear C hb1 hcb
     refine ⟨_, rfl, hS1, ?_⟩
     simp only [Act.put, PutA, PutZ, PutS]
     refine sq_done ?_
     clear hS1
     obtain ⟨pv2, bv2, lv2, h1⟩ := hs1
     have hat1 : (placeQ q d true).at_ = (k : Int) := hat1
     have hc1 := h1.blk
     rw [hat1] at hc1
     have H1 := Lib.hid h1
     clear h1 hat1
     go_upto_region 9 with fail
     refine wp_region_seq0 (by rfl) ?_
     simp only [List.map]
     refine sq_pure (.pointer (some ⟨c, 0, none⟩)) (by go_simp) trivial ?_
     simp only [Act.put, PutA, PutZ, PutS]
     refine sq_pure (.pointer (some ⟨c, 0, none⟩)) (by go_simp) trivial ?_
     simp only [Act.put, PutA, PutZ, PutS]
     refine sq_pure (.pointer (some ⟨c, 1, none⟩)) (by go_simp) trivial ?_
     simp only [Act.put, PutA, PutZ, PutS]
     refine sq_pure (.int .i64 (k : Int)) (by have q0 := blk_cell hc1 1; go_simp) trivial ?_
     simp only [Act.put, PutA, PutZ, PutS]
     refine sq_pure (.int .i64 ((k : Int) + 3)) (by go_simp) trivial ?_
     simp only [Act.put, PutA, PutZ, PutS]
     refine sq_pure (.pointer (some ⟨c, 0, none⟩)) (by go_simp) trivial ?_
     simp only [Act.put, PutA, PutZ, PutS]
     refine sq_pure (.pointer (some ⟨c, 1, none⟩)) (by go_simp) trivial ?_
     simp only [Act.put, PutA, PutZ, PutS]
     refine sq_store 3 _ _ rfl rfl c 1 307 _ #[.string s, .int .i64 ((k : Int) + 3), pv2, bv2, lv2, .int .i64 (placeQ q d true).pl, .int .i64 (placeQ q d true).e] [.int .i64 ((k : Int) + 3)] rfl rfl hc1 sz3 (one1 rfl) rfl (by simp) ?_
     intro wm hst hgr
     refine ⟨trivial, ?_⟩
     have HF : Hid (ScP c s (pctQ s k q) w wm) := Lib.hid (by rw [HQ.out]; exact ⟨⟨_, _, _, H1.out.move _ hst hgr⟩, below_c HB1.out hgr (lt_of_blk hc1)⟩)
     clear hst hgr hc1 H1
     refine sq_done ?_
     go_wp2_with fail
     go_end0
     exact ⟨rfl, HF.out⟩
end Go.Proofs.YtmhhcfceikcfbaaGreat
