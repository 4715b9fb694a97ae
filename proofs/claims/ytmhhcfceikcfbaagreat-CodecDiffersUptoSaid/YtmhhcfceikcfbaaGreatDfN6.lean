/- Walks: a place put into the parts; a digit looked for. -/
import Derived.Test.YtmhhcfceikcfbaaGreatDfN3
namespace Go.Proofs.YtmhhcfceikcfbaaGreat
open Go.RowKit
def placeQ (q : ScQ) (d : UInt8) (pl : Bool) : ScQ := ⟨(flushQ q).at_, (flushQ q).lit, (flushQ q).L ++ [((⟨#[]⟩ : ByteArray), (d.toNat : Int) - 48, pl)], (flushQ q).pl + 1, (flushQ q).e⟩
set_option maxRecDepth 100000 in
set_option maxHeartbeats 4000000 in
theorem place234 (c : Nat) (s : ByteArray) (q : ScQ) (pv bv lv : Value) (d : UInt8) (pn : Bool) (w : World) (h : ScAt c s q pv bv lv w) (hL : q.L.length ≤ 500) (hp : 0 ≤ q.pl ∧ q.pl ≤ 1000) (hd : 49 ≤ d.toNat ∧ d.toNat ≤ 57) : Calls Tryz.prog 234 #[.pointer (some ⟨c, 0, none⟩), .int .u8 (d.toNat : Int), .bool pn] w (RetS c s (placeQ q d pn) w) := by
 have CF := Lib.hid (flush232 c s q pv bv lv w h (by omega))
 have hfl : (flushQ q).L.length ≤ 1000 ∧ (flushQ q).pl = q.pl := by
  unfold flushQ
  split
  ·exact ⟨by omega, rfl⟩
  ·exact ⟨by simp; omega, rfl⟩
 obtain ⟨f, hf⟩ : ∃ f, f = flushQ q := ⟨_, rfl⟩
 rw [← hf] at CF hfl
 obtain ⟨hfl, hfp⟩ := hfl
 have HQ := Lib.hid (show placeQ q d pn = ⟨f.at_, f.lit, f.L ++ [((⟨#[]⟩ : ByteArray), (d.toNat : Int) - 48, pn)], f.pl + 1, f.e⟩ by unfold placeQ; rw [hf])
 have e1 : IntKind.u8.wrap ((d.toNat : Int) - 48) = (d.toNat : Int) - 48 := by
  simp only [IntKind.wrap, IntKind.bits, IntKind.signed]
  simp
  omega
 have e2 : IntKind.i64.wrap (f.pl + 1) = f.pl + 1 := IntWalk.i64_in _ (by omega)
 have e3 : wrap64 (f.pl + 1) = f.pl + 1 := IntWalk.wrap64_in _ (by omega)
 have e4 : IntKind.i64.wrap ((d.toNat : Int) - 48) = (d.toNat : Int) - 48 := IntWalk.i64_in _ (by omega)
 have e5 : wrap64 ((d.toNat : Int) - 48) = (d.toNat : Int) - 48 := IntWalk.wrap64_in _ (by omega)
 clear hf h hfp hp
 go_enter Tryz.func234, Tryz.ntmps234
 go_wp2_with fail
 refine CF.out.mono ?_
 rintro e w1 ⟨rfl, ⟨pv2, bv2, lv2, h1⟩, hb1⟩
 have hcb := h1.blk
 have HS := Lib.hid h1
 obtain ⟨A, cp, hlv, _, _⟩ := Own.shape h1.prt
 subst hlv
 obtain ⟨LN, hLN⟩ : ∃ n, n = f.L.length := ⟨_, rfl⟩
 rw [← hLN] at hcb HS
 have hO := HS.out.prt
 have HB1 := Lib.hid hb1
 clear CF h1 hb1 hLN
 go_upto_region 1 with fail
 refine wp_region_seq0 (by rfl) ?_
 simp only [List.map]
 refine sq_pure (.pointer (some ⟨c, 0, none⟩)) (by go_simp) trivial ?_
 simp only [Act.put, PutA, PutZ, PutS]
 refine sq_pure (.pointer (some ⟨c, 0, none⟩)) (by go_simp) trivial ?_
 simp only [Act.put, PutA, PutZ, PutS]
 refine sq_pure (.pointer (some ⟨c, 0, none⟩)) (by go_simp) trivial ?_
 simp only [Act.put, PutA, PutZ, PutS]
 refine sq_pure (.pointer (some ⟨c, 4, none⟩)) (by go_simp) trivial ?_
 simp only [Act.put, PutA, PutZ, PutS]
 refine sq_pure (.slice A LN cp) (by have q0 := blk_cell hcb 4; go_simp) trivial ?_
 simp only [Act.put, PutA, PutZ, PutS]
 refine sq_pure (.int .u8 (d.toNat : Int)) (by go_simp) trivial ?_
 simp only [Act.put, PutA, PutZ, PutS]
 refine sq_pure (.int .u8 ((d.toNat : Int) - 48)) (by go_simp) trivial ?_
 simp only [Act.put, PutA, PutZ, PutS]
 refine sq_pure (.int .i64 ((d.toNat : Int) - 48)) (by go_simp) trivial ?_
 simp only [Act.put, PutA, PutZ, PutS]
 refine sq_pure (.bool pn) (by go_simp) trivial ?_
 simp only [Act.put, PutA, PutZ, PutS]
 refine sq_pure (.agg #[.string ⟨#[]⟩, .int .i64 ((d.toNat : Int) - 48), .bool pn]) (by go_simp) trivial ?_
 simp only [Act.put, PutA, PutZ, PutS]
 refine sq_value (.slice (some ⟨w1.heap.size, 0, none⟩) 1 1) (w1.alloc (.cells #[.string ⟨#[]⟩, .int .i64 ((d.toNat : Int) - 48), .bool pn] 290)) (by go_simp) trivial ?_
 simp only [Act.put, PutA, PutZ, PutS]
 have hn := heap_alloc_new w1 (.cells #[.string ⟨#[]⟩, .int .i64 ((d.toNat : Int) - 48), .bool pn] 290)
 have hb3 := blk_ov hcb (below_alloc w1 (.cells #[.string ⟨#[]⟩, .int .i64 ((d.toNat : Int) - 48), .bool pn] 290))
 have hO3 := hO.alloc (.cells #[.string ⟨#[]⟩, .int .i64 ((d.toNat : Int) - 48), .bool pn] 290)
 have hL3 := HS.out.lit.alloc (.cells #[.string ⟨#[]⟩, .int .i64 ((d.toNat : Int) - 48), .bool pn] 290)
 have hB3 : Below c w (w1.alloc (.cells #[.string ⟨#[]⟩, .int .i64 ((d.toNat : Int) - 48), .bool pn] 290)) := HB1.out.trans ((below_alloc w1 _).mono (Nat.le_of_lt (lt_of_blk hcb)))
 obtain ⟨g, hg⟩ : ∃ g, g = w1.heap.size := ⟨_, rfl⟩
 obtain ⟨w3, hw3⟩ : ∃ W, W = w1.alloc (.cells #[.string ⟨#[]⟩, .int .i64 ((d.toNat : Int) - 48), .bool pn] 290) := ⟨_, rfl⟩
 rw [← hw3] at hn hb3 hO3 hL3 hB3 ⊢
 rw [← hg] at hn ⊢
 clear hw3 hg hO
 refine sq_part _ _ rfl rfl c (.slice A LN cp) f.L rfl hO3 g ((⟨#[]⟩ : ByteArray), (d.toNat : Int) - 48, pn) rfl hn hfl (Nat.le_of_lt (lt_of_blk hb3)) ?_
 intro v' w4 hO4 hg4
 have hb4 : w4.heap[c]? = some (.cells #[.string s, .int .i64 f.at_, pv2, bv2, .slice A LN cp, .int .i64 f.pl, .int .i64 f.e] 307 (0, 0)) := (hg4.block c (lt_of_blk hb3) (by rcases own_type hO3 hb3 (by decide) with q | q; rw [q]; simp; exact fun e => q e.symm)).trans hb3
 have HB4 := Lib.hid (own_grown hB3 hO3 hg4 (Nat.le_of_lt (lt_of_blk hb3)))
 have HL4 := Lib.hid (hL3.kept hg4 (own_two hL3 hO3 (by decide)))
 obtain ⟨A', c', rfl, _, _⟩ := Own.shape hO4
 have HO4 := Lib.hid hO4
 obtain ⟨N2, hN2⟩ : ∃ n, n = (f.L ++ [((⟨#[]⟩ : ByteArray), (d.toNat : Int) - 48, pn)]).length := ⟨_, rfl⟩
 rw [← hN2] at HO4 ⊢
 clear hO3 hL3 hn hb3 hB3 hg4 hO4 hN2
 refine ⟨trivial, ?_⟩
 simp only [Act.put, PutA, PutZ, PutS]
 refine sq_pure (.pointer (some ⟨c, 0, none⟩)) (by go_simp) trivial ?_
 simp only [Act.put, PutA, PutZ, PutS]
 refine sq_pure (.pointer (some ⟨c, 4, none⟩)) (by go_simp) trivial ?_
 simp only [Act.put, PutA, PutZ, PutS]
 refine sq_store 285 _ _ rfl rfl c 4 307 _ #[.string s, .int .i64 f.at_, pv2, bv2, (.slice A' N2 c'), .int .i64 f.pl, .int .i64 f.e] [.slice A' N2 c'] rfl rfl hb4 sz285 (one1 rfl) rfl (by simp) ?_
 intro w5 h5 g5
 refine ⟨trivial, ?_⟩
 refine sq_done ?_
 have HB5 := Lib.hid (below_c HB4.out g5 (lt_of_blk hb4))
 have HO5 := Lib.hid (HO4.out.kept g5 (own_type HO4.out hb4 (by decide)))
 have HL5 := Lib.hid (HL4.out.kept g5 (own_type HL4.out hb4 (by decide)))
 clear g5 hb4 HO4 HL4 HB4
 go_upto_region 2 with fail
 refine wp_region_seq0 (by rfl) ?_
 simp only [List.map]
 refine sq_pure (.pointer (some ⟨c, 0, none⟩)) (by go_simp) trivial ?_
 simp only [Act.put, PutA, PutZ, PutS]
 refine sq_pure (.pointer (some ⟨c, 0, none⟩)) (by go_simp) trivial ?_
 simp only [Act.put, PutA, PutZ, PutS]
 refine sq_pure (.pointer (some ⟨c, 5, none⟩)) (by go_simp) trivial ?_
 simp only [Act.put, PutA, PutZ, PutS]
 refine sq_pure (.int .i64 f.pl) (by have q0 := blk_cell h5 5; go_simp) trivial ?_
 simp only [Act.put, PutA, PutZ, PutS]
 refine sq_pure (.int .i64 (f.pl + 1)) (by go_simp) trivial ?_
 simp only [Act.put, PutA, PutZ, PutS]
 refine sq_pure (.pointer (some ⟨c, 0, none⟩)) (by go_simp) trivial ?_
 simp only [Act.put, PutA, PutZ, PutS]
 refine sq_pure (.pointer (some ⟨c, 5, none⟩)) (by go_simp) trivial ?_
 simp only [Act.put, PutA, PutZ, PutS]
 refine sq_store 3 _ _ rfl rfl c 5 307 _ #[.string s, .int .i64 f.at_, pv2, bv2, (.slice A' N2 c'), .int .i64 (f.pl + 1), .int .i64 f.e] [.int .i64 (f.pl + 1)] rfl rfl h5 sz3 (one1 rfl) rfl (by simp) ?_
 intro w6 h6 g6
 refine ⟨trivial, ?_⟩
 have HF : Hid (ScP c s (placeQ q d pn) w w6) := Lib.hid (by
  rw [HQ.out]
  exact ⟨⟨_, _, _, h6, HS.out.pv, HL5.out.kept g6 (own_type HL5.out h5 (by decide)), HO5.out.kept g6 (own_type HO5.out h5 (by decide))⟩, below_c HB5.out g6 (lt_of_blk h5)⟩)
 clear h5 h6 g6
 refine sq_done ?_
 go_wp2_with fail
 go_end0
 exact ⟨rfl, HF.out⟩
def digB (s : ByteArray) (k : Nat) : Bool := match s[k]? with
 | some d => decide (49 ≤ d.toNat) && decide (d.toNat ≤ 57)
 | none => false
set_option maxRecDepth 100000 in
set_option maxHeartbeats 4000000 in
theorem digit233 (c : Nat) (s : ByteArray) (x1 x2 x3 x4 x5 x6 : Value) (k : Nat) (w : World) (hb : w.heap[c]? = some (.cells #[.string s, x1, x2, x3, x4, x5, x6] 307 (0, 0))) : Calls Tryz.prog 233 #[.pointer (some ⟨c, 0, none⟩), .int .i64 (k : Int)] w fun e w' => e = .returned (.bool (digB s k)) ∧ w = w' := by
 have c0 := blk_cell hb 0
 have HB := Lib.hid hb
 clear hb
 by_cases h1 : k < s.size
 ·have f1 : (k : Int) < (s.size : Int) := by omega
  obtain ⟨d, hd⟩ : ∃ d, d = s[k] := ⟨_, rfl⟩
  have hg : s[k]? = some d := by rw [hd]; exact getElem?_pos s k h1
  have hV : digB s k = (decide (49 ≤ d.toNat) && decide (d.toNat ≤ 57)) := by
   unfold digB
   rw [hg]
  have HV := Lib.hid hV
  have e1 : s[k] = d := hd.symm
  clear hV hg hd
  by_cases h2 : 49 ≤ d.toNat
  ·have g1 : decide ((49 : Int) ≤ (d.toNat : Int)) = true := by simp; omega
   have g2 : decide ((d.toNat : Int) < 49) = false := by simp; omega
   by_cases h3 : d.toNat ≤ 57
   ·have g3 : decide ((d.toNat : Int) ≤ 57) = true := by simp; omega
    have g4 : decide ((57 : Int) < (d.toNat : Int)) = false := by simp; omega
    have HF := Lib.hid (show digB s k = true by rw [HV.out]; simp [h2, h3])
    go_enter Tryz.func233, Tryz.ntmps233
    go_wp2_with fail
    go_ret
    exact ⟨by rw [HF.out]; rfl, rfl⟩
   ·have g3 : decide ((d.toNat : Int) ≤ 57) = false := by simp; omega
    have g4 : decide ((57 : Int) < (d.toNat : Int)) = true := by simp; omega
    have HF := Lib.hid (show digB s k = false by rw [HV.out]; simp [h3])
    go_enter Tryz.func233, Tryz.ntmps233
    go_wp2_with fail
    go_ret
    exact ⟨by rw [HF.out]; rfl, rfl⟩
  ·have g1 : decide ((49 : Int) ≤ (d.toNat : Int)) = false := by simp; omega
   have g2 : decide ((d.toNat : Int) < 49) = true := by simp; omega
   have HF := Lib.hid (show digB s k = false by rw [HV.out]; simp [h2])
   go_enter Tryz.func233, Tryz.ntmps233
   go_wp2_with fail
   go_ret
   exact ⟨by rw [HF.out]; rfl, rfl⟩
 ·have f1 : ¬ (k : Int) < (s.size : Int) := by omega
  have hV : digB s k = false := by
   unfold digB
   rw [getElem?_neg s k h1]
  have HF := Lib.hid hV
  clear hV
  go_enter Tryz.func233, Tryz.ntmps233
  go_wp2_with fail
  go_ret
  exact ⟨by rw [HF.out]; rfl, rfl⟩
end Go.Proofs.YtmhhcfceikcfbaaGreat
namespace Go.Proofs.YtmhhcfceikcfbaaGreat
open Go.RowKit
def pfxB (a b : ByteArray) : Bool := if b.size ≤ a.size then ((a.extract 0 b.size).toList == b.toList) else false
set_option maxRecDepth 100000 in
set_option maxHeartbeats 4000000 in
theorem pfx166 (a b : ByteArray) (w : World) : Calls Tryz.prog 166 #[.string a, .string b] w fun e w' => e = .returned (.bool (pfxB a b)) ∧ w = w' := by
 by_cases h : b.size ≤ a.size
 ·have f1 : decide ((b.size : Int) ≤ (a.size : Int)) = true := by simp; omega
  have f2 : decide ((a.size : Int) < (b.size : Int)) = false := by simp; omega
  have f3 : decide (b.size ≤ a.size) = true := by simpa using h
  have f4 : decide (a.size < b.size) = false := by simp; omega
  obtain ⟨q, hq⟩ : ∃ q, q = ((a.extract 0 b.size).toList == b.toList) := ⟨_, rfl⟩
  have HF := Lib.hid (show pfxB a b = q by unfold pfxB; rw [if_pos h, hq])
  have fq := hq.symm
  clear hq
  go_enter Tryz.func166, Tryz.ntmps166
  go_wp2_with fail
  go_ret
  exact ⟨by rw [HF.out]; rfl, rfl⟩
 ·have f1 : decide ((b.size : Int) ≤ (a.size : Int)) = false := by simp; omega
  have f2 : decide ((a.size : Int) < (b.size : Int)) = true := by simp; omega
  have f3 : decide (b.size ≤ a.size) = false := by simpa using h
  have f4 : decide (a.size < b.size) = true := by simp; omega
  have HF := Lib.hid (show pfxB a b = false by unfold pfxB; rw [if_neg h])
  go_enter Tryz.func166, Tryz.ntmps166
  go_wp2_with fail
  go_ret
  exact ⟨by rw [HF.out]; rfl, rfl⟩
set_option maxRecDepth 100000 in
set_option maxHeartbeats 4000000 in
theorem pfx90 (a b : ByteArray) (w : World) : Calls Tryz.prog 90 #[.string a, .string b] w fun e w' => e = .returned (.bool (pfxB a b)) ∧ w = w' := by
 have C := Lib.hid (pfx166 a b w)
 obtain ⟨q, hq⟩ : ∃ q, q = pfxB a b := ⟨_, rfl⟩
 rw [← hq] at C ⊢
 clear hq
 go_enter Tryz.func90, Tryz.ntmps90
 go_wp2_with fail
 refine C.out.mono ?_
 rintro e w1 ⟨rfl, rfl⟩
 clear C
 go_wp2_with fail
 go_ret
 exact ⟨rfl, rfl⟩
end Go.Proofs.YtmhhcfceikcfbaaGreat
