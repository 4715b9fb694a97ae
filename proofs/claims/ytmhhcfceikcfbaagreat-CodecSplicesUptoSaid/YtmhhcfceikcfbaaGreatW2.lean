/- Walks: the writer's texts and Booleans. -/
import Derived.Test.YtmhhcfceikcfbaaGreatW1
namespace Go.Proofs.YtmhhcfceikcfbaaGreat
open Go.RowKit

def strV (s : ByteArray) : Value := .string s
def RowS (p g : Nat) (ns : List ByteArray) (w : World) : Prop := Off p g w ∧ ∀ (k : Nat) (n : ByteArray), ns[k]? = some n → w.cell? ⟨g, k, none⟩ = some (.string n)
theorem RowS.kp {p g : Nat} {ns : List ByteArray} {w w' : World} (h : RowS p g ns w) (k : Kp p w w') : RowS p g ns w' :=
  ⟨(h.1.kp k).1, fun i n hn => (World.cell?_of_block (h.1.kp k).2).trans (h.2 i n hn)⟩
def TxtO (p B : Nat) (L : List Nat) (ns : List ByteArray) (w wr : World) (k : Nat) : Prop := WrSB p B wr (L ++ (ns.take k).flatMap strE) ∧ (0 < k → WrS p B wr (L ++ (ns.take k).flatMap strE)) ∧ Kp p w wr

set_option maxRecDepth 100000 in
set_option maxHeartbeats 4000000 in
theorem text_lib (p B g : Nat) (ns : List ByteArray) (L : List Nat) (w : World) (hw : WrSB p B w L) (hr : RowS p g ns w) (hn : 0 < ns.length) (hI : ∀ n ∈ ns, szD n) (hB : B ≤ w.heap.size) (hsz : (L ++ ns.flatMap strE).length ≤ 1099511627776) :
    Calls Tryz.prog 116 #[.pointer (some ⟨p, 0, none⟩), .slice (some ⟨g, 0, none⟩) ns.length ns.length] w (WrE p B w (L ++ ns.flatMap strE)) := by
  obtain ⟨i0, hi, hz0, hz1, hz2⟩ := info_parts info5
  have HW0 : Hid (TxtO p B L ns w w 0) := Lib.hid ⟨by simpa using hw, fun h => absurd h (by omega), Kp.refl _ _⟩
  have HR := Lib.hid hr
  have HI := Lib.hid hI
  have hmb : ns.length ≤ 1099511627776 := by
    have h1 := flat_ge strE_ne ns
    rw [List.length_append] at hsz
    omega
  obtain ⟨m, hm⟩ : ∃ m, m = ns.length := ⟨_, rfl⟩
  have HM := Lib.hid hm
  have HS := Lib.hid hsz
  rw [← hm] at hn hmb ⊢
  clear hw hr hI hm hsz
  go_enter Tryz.func116, Tryz.ntmps116
  go_wp2_with fail
  go_loopw [8] (fun iv wr => ∃ k : Nat, k ≤ m ∧ iv = .int .i64 (k : Int) ∧ Hid (TxtO p B L ns w wr k)) (fun iv _ => m - (intOf iv).toNat)
  case atStart => exact ⟨0, Nat.zero_le _, rfl, HW0⟩
  case round =>
    obtain ⟨k, hk, rfl, HK⟩ := hrel
    clear HW0
    by_cases hlt : k < m
    · have hlt' : (k : Int) < (m : Int) := by omega
      obtain ⟨s, hnk⟩ : ∃ n, ns[k]? = some n := ⟨ns[k]'(by rw [← HM.out]; exact hlt), by simp⟩
      have c1 := (HR.out.kp HK.out.2.2).2 k s hnk
      have hs := HI.out s (List.mem_of_getElem? hnk)
      have HT : Hid (L ++ (ns.take (k + 1)).flatMap strE = L ++ (ns.take k).flatMap strE ++ encN s.size ++ bytesN s) := Lib.hid (by
        rw [List.take_add_one, hnk, List.flatMap_append, List.append_assoc, List.append_assoc]
        simp [strE, textE, bytesN_length])
      have HL : (L ++ (ns.take (k + 1)).flatMap strE).length ≤ 1099511627776 := by
        have h2 := HS.out
        rw [← List.take_append_drop (k + 1) ns, List.flatMap_append, List.length_append, List.length_append] at h2
        rw [List.length_append]
        omega
      obtain ⟨M, hM⟩ : ∃ M, M = L ++ (ns.take (k + 1)).flatMap strE := ⟨_, rfl⟩
      rw [← hM] at HT HL
      have HM2 := Lib.hid hM
      clear hM
      have hB2 : B ≤ wr.heap.size := Nat.le_trans hB HK.out.2.2.size
      have CN := Lib.hid (number_lit p B [(s.size : Int)] (L ++ (ns.take k).flatMap strE) wr HK.out.1 (by simp) (by intro n h; rw [List.mem_singleton.1 h]; unfold szD at hs; unfold I64; omega) hB2 (by rw [HT.out] at HL; simp at HL ⊢; omega))
      go_wp2_with fail
      refine CN.out.mono ?_
      rintro e w1 ⟨rfl, ⟨v, hv⟩, hk1⟩
      have HV := Lib.hid hv
      have HK1 := Lib.hid hk1
      have hc := blk_cell hv.1 0
      simp only [List.getElem?_toArray, List.getElem?_cons_zero] at hc
      have hl' : (L ++ (ns.take k).flatMap strE ++ encN s.size).length + s.size ≤ 1099511627776 := by
        have := congrArg List.length HT.out
        rw [List.length_append, bytesN_length] at this
        omega
      obtain ⟨N, hN⟩ : ∃ N, N = L ++ (ns.take k).flatMap strE ++ encN s.size := ⟨_, rfl⟩
      have HE : Hid (N ++ bytesN s = L ++ (ns.take (k + 1)).flatMap strE) := Lib.hid (by rw [hN, ← HT.out, HM2.out])
      have HV2 : Hid (Wr p B w1 v N) := Lib.hid (by rw [hN]; simpa using hv)
      have HKP := Lib.hid (HK.out.2.2.trans hk1)
      rw [← hN] at hl'
      have hb1 : B ≤ w1.heap.size := Nat.le_trans hB2 hk1.size
      clear hN hv hk1 HV HK1 CN HT HM2 HL
      go_wp2_with (at_builtin; refine wpList_str _ rfl _ _ 93 9 rfl B i0 Tryz.underlying93 Tryz.underlying9 hi hz0 hz1 hz2 v N rfl HV2.out.2.2.2 s rfl hl' hb1 ?_; intro v2 w2 hown hg hat; obtain ⟨k1, k2, HW2, HK2⟩ := WrB.put HKP.out HV2.out.buf hown hg hat; obtain ⟨A2, cc2, rfl, _, _⟩ := Own.shape hown; clear hg hat hown; rw [List.length_append] at HW2 HK2)
      rw [HE.out] at HW2
      have hS : WrS p B _ _ := ⟨_, HW2⟩
      exact ⟨⟨k + 1, by omega, by go_num, Lib.hid ⟨hS.buf, fun _ => hS, HK2⟩⟩, by simp [intOf]; omega⟩
    · have hkm : k = m := by omega
      subst hkm
      have hlt' : ¬ (k : Int) < (k : Int) := by omega
      go_wp2_with fail
      go_end0
      have e : ns.take k = ns := List.take_of_length_le (by rw [← HM.out]; exact Nat.le_refl _)
      obtain ⟨_, h1, h2⟩ := HK.out
      rw [e] at h1
      exact ⟨rfl, h1 hn, h2⟩
theorem cells_litS (w : World) (ns : List ByteArray) (k : Nat) (n : ByteArray) (h : ns[k]? = some n) : (w.alloc (.cells (ns.map strV).toArray 9)).cell? ⟨w.heap.size, k, none⟩ = some (.string n) := by
  rw [World.cell?_alloc_new]
  simp [h, strV]
theorem text_lit (p B : Nat) (ns : List ByteArray) (L : List Nat) (w : World) (hw : WrSB p B w L) (hn : 0 < ns.length) (hI : ∀ n ∈ ns, szD n) (hB : B ≤ w.heap.size) (hsz : (L ++ ns.flatMap strE).length ≤ 1099511627776) :
    Calls Tryz.prog 116 #[.pointer (some ⟨p, 0, none⟩), .slice (some ⟨w.heap.size, 0, none⟩) ns.length ns.length] (w.alloc (.cells (ns.map strV).toArray 9)) (WrE p B w (L ++ ns.flatMap strE)) :=
  (text_lib p B w.heap.size ns L _ (hw.alloc _) ⟨hw.off_new _, fun k n h => cells_litS w ns k n h⟩ hn hI (by simp; omega) hsz).mono fun _ _ h => h.from_alloc hw
set_option maxRecDepth 100000 in
set_option maxHeartbeats 1000000 in
theorem boolean_lib (p B : Nat) (b : Bool) (L : List Nat) (w : World) (hw : WrSB p B w L) (hB : B ≤ w.heap.size) (hsz : (L ++ flagE b).length ≤ 1099511627776) :
    Calls Tryz.prog 77 #[.pointer (some ⟨p, 0, none⟩), .bool b] w (WrE p B w (L ++ flagE b)) := by
  have CN := Lib.hid (number_lit p B [if b then 1 else 0] L w hw (by simp) (by intro n h; rw [List.mem_singleton.1 h]; cases b <;> (unfold I64; decide)) hB (by simpa [flagE] using hsz))
  have e : L ++ [if b then (1 : Int) else 0].flatMap encN = L ++ flagE b := by simp [flagE]
  rw [e] at CN
  obtain ⟨M, hM⟩ : ∃ M, M = L ++ flagE b := ⟨_, rfl⟩
  rw [← hM] at CN ⊢
  clear hM e hsz
  cases b with
  | true =>
    go_enter Tryz.func77, Tryz.ntmps77
    go_wp2_with fail
    refine CN.out.mono ?_
    rintro e w1 ⟨rfl, h1, h2⟩
    go_wp2_with fail
    go_end0
    exact ⟨rfl, h1, h2⟩
  | false =>
    go_enter Tryz.func77, Tryz.ntmps77
    go_wp2_with fail
    refine CN.out.mono ?_
    rintro e w1 ⟨rfl, h1, h2⟩
    go_wp2_with fail
    go_end0
    exact ⟨rfl, h1, h2⟩
end Go.Proofs.YtmhhcfceikcfbaaGreat
