/- Walks: the law's decode; same. -/
import Derived.Test.YtdnaifkcogadkaaR7
namespace Go.Proofs.Ytdnaifkcogadkaa
open Go.RowKit

set_option maxRecDepth 100000 in
set_option maxHeartbeats 4000000 in
theorem decode_ref (s : ByteArray) (w : World) (hs : s.size ≤ 1048576000) :
    Calls Try.prog 24 #[.string s] w fun e w' => ∃ v n, e = .returned (.tuple #[v, .int .i64 n]) ∧ DecPost w.heap.size (bytesN s) v n w' ∧ Below w.heap.size w w' := by
  obtain ⟨i0, hi, hz0, hz1, hz2⟩ := info_parts info38
  have hlen := Lib.hid (bytesN_length s)
  by_cases he : dirE (bytesN s) = 0
  case neg =>
    obtain ⟨z, hz⟩ : ∃ z, z = dirE (bytesN s) := ⟨_, rfl⟩
    have hz0 : z ≠ 0 := by rw [hz]; exact he
    have hzb : (z == 0) = false := by simpa using hz0
    have hzn : (z != 0) = true := by simpa using hz0
    have HD : Hid (decE (bytesN s) = z) := Lib.hid (by rw [decE_dir he, hz])
    have HZ := Lib.hid hz
    clear hz he
    go_enter Try.func24, Try.ntmps24
    go_wp2_with fail
    refine (directory_ref s w hs).mono ?_
    rintro e w1 ⟨v, n, rfl, ⟨hn, _, _⟩, hb1⟩
    rw [← HZ.out] at hn
    subst hn
    go_wp2_with fail
    go_ret2
    exact ⟨_, _, rfl, decPost_bad HD.out hz0, hb1⟩
  have HE := Lib.hid he
  have HL := Lib.hid (dirX_each (bytesN s))
  have hXl := dirX_len (bytesN s)
  have HA : Hid (decE (bytesN s) = if (dirX (bytesN s)).all (datOk (bytesN s)) = true then 0 else 33) := Lib.hid (decE_all he)
  clear he
  go_enter Try.func24, Try.ntmps24
  go_wp2_with fail
  refine (directory_ref s w hs).mono ?_
  rintro e w1 ⟨v, n, rfl, ⟨hn, _, hents⟩, hb1⟩
  rw [HE.out] at hn
  subst hn
  obtain ⟨X, hX⟩ : ∃ X, X = dirX (bytesN s) := ⟨_, rfl⟩
  rw [← hX] at HL HA hents hXl
  have HX := Lib.hid hX
  clear hX
  obtain ⟨A, c, rfl, hlc, hcm, _⟩ := id hents
  unfold maxLen at hcm
  have HEN := Lib.hid hents
  obtain ⟨m, hm⟩ : ∃ m, m = X.length := ⟨_, rfl⟩
  rw [← hm] at HEN hlc hXl ⊢
  have HM := Lib.hid hm
  clear hents hm
  go_wp2_with fail
  go_loopw [6, 7] (fun ov iv wr => ∃ k : Nat, k ≤ m ∧ iv = .int .i64 k ∧ Hid ((X.take k).all (datOk (bytesN s)) = true) ∧ OwnP wr w1.heap.size ov ((X.take k).map (partOf (bytesN s))) ∧ Below w1.heap.size w1 wr) (fun _ iv _ => m - (intOf iv).toNat)
  case atStart => exact ⟨0, Nat.zero_le _, rfl, Lib.hid rfl, Own.nil _ _, Below.refl _ _⟩
  case round =>
    obtain ⟨k, hk, rfl, HK, hown, hb⟩ := hrel
    have hbz := hb.size
    by_cases hlt : k < m
    · obtain ⟨x, hx⟩ : ∃ x, X[k]? = some x := ⟨X[k]'(by rw [← HM.out]; exact hlt), by simp⟩
      obtain ⟨b, o, hA, hbB, c0, c1, c2, c3⟩ := Ents.at (Sl.over HEN.out hb) k x hx
      subst hA
      have HT : Hid (X.take (k + 1) = X.take k ++ [x]) := Lib.hid (by rw [List.take_add_one, hx]; rfl)
      obtain ⟨e1, e2, e3⟩ := HL.out x (List.mem_of_getElem? hx)
      rw [hlen.out] at e1
      have HXK := Lib.hid hx
      clear hx e3
      obtain ⟨⟨nm, sz, sm⟩, off⟩ := x
      simp only at c0 c1 c2 c3 e1 e2
      obtain ⟨en, hen⟩ : ∃ n, n = off + sz := ⟨_, rfl⟩
      have h1 : IntKind.i64.wrap ((off : Int) + (sz : Int)) = (en : Int) := by rw [IntWalk.i64_in _ (by omega)]; omega
      have h2 : (off : Int) + (sz : Int) = (en : Int) := by omega
      have k1 : (off : Int) ≤ (en : Int) := by omega
      have k2 : (en : Int) ≤ (s.size : Int) := by omega
      have k3 : en ≤ s.size := by omega
      have k4 : (k : Int) < (m : Int) := by omega
      obtain ⟨d, hd⟩ : ∃ d, d = s.extract off en := ⟨_, rfl⟩
      have HD : Hid (dataS s ((⟨nm, sz, sm⟩ : Ent), off) = d) := Lib.hid (by unfold dataS; rw [hd, hen])
      have hds : d.size ≤ 1048576000 := by rw [hd, ByteArray.size_extract]; omega
      have hd' := hd.symm
      obtain ⟨cr, hcr⟩ : ∃ c, c = crcL (bytesN d) := ⟨_, rfl⟩
      have CS : Hid (∀ W, Calls Try.prog 20 #[.string d] W fun e w' => e = .returned (.int .u32 cr) ∧ W = w') := Lib.hid (fun W => by rw [hcr]; exact sum_any d W (by omega))
      have HOK : Hid (datOk (bytesN s) ((⟨nm, sz, sm⟩ : Ent), off) = (cr == sm)) := Lib.hid (by unfold datOk; rw [← dataS_bytes, HD.out, hcr])
      clear hd hcr hen
      by_cases hc : cr = sm
      · subst hc
        have hq := eq_nat cr
        have HKn : Hid ((X.take (k + 1)).all (datOk (bytesN s)) = true) := Lib.hid (by rw [HT.out, List.all_append, HK.out]; simp [HOK.out])
        have hkl : ((X.take k).map (partOf (bytesN s))).length ≤ 64 := by rw [List.length_map, List.length_take]; omega
        have HPn : Hid ((X.take (k + 1)).map (partOf (bytesN s)) = (X.take k).map (partOf (bytesN s)) ++ [(nm, d)]) := Lib.hid (by rw [HT.out, List.map_append, List.map_singleton, partOf_data, HD.out])
        obtain ⟨P, hP⟩ : ∃ P, P = (X.take k).map (partOf (bytesN s)) := ⟨_, rfl⟩
        rw [← hP] at hkl hown HPn
        clear hP
        go_wp2_with fail
        go_quiet (fail)
        clear h1 c1 c2
        go_wp2_with fail
        go_region_held3 (fun w' => w'.cell? ⟨b, o + k * 4 + 3, none⟩ = some (.int .u32 cr))
          (first
            | assumption
            | exact c3)
          (first
            | (go_at_call 20; (with_reducible refine (CS.out _).mono ?_); rintro e w' ⟨rfl, rfl⟩))
        have hO1 : OwnP (wr.drewN (nq + 1)) w1.heap.size _ P := Own.drewN hown _
        have hb2 : Below w1.heap.size w1 (wr.drewN (nq + 1)) := below_drewN hb _
        have g0 : (wr.drewN (nq + 1)).cell? ⟨b, o + k * 4, none⟩ = some (.string nm) := c0
        obtain ⟨W, hW⟩ : ∃ W, W = wr.drewN (nq + 1) := ⟨_, rfl⟩
        rw [← hW] at hO1 hb2 g0 ⊢
        clear hW hown c0 c3
        have hbz2 := hb2.size
        go_wp2_with (at_builtin; refine wpList_push _ rfl _ _ 22 rfl w1.heap.size 38 i0 _ 2 32 Try.underlying22 hi hz0 hz1 hz2 rfl (by decide) encP_length encP_eachR _ P rfl (Own.alloc hO1 _) W.heap.size 1 (nm, d) rfl (cells_new W (encP (nm, d)) 38) (by omega) (by omega) (by simp; omega) ?_; intro v3 w3 hown3 hg3)
        have hb3 : Below w1.heap.size w1 w3 := (hb2.alloc hbz2 (.cells #[.string nm, .string d] 38)).trans (Own.belowG (Own.alloc hO1 (.cells #[.string nm, .string d] 38)) (by simp; omega) hg3)
        go_roundw
        case rel => exact ⟨k + 1, by omega, by go_num, HKn, by rw [HPn.out]; exact hown3, hb3⟩
        case measure => simp [intOf]; omega
      · have hq := neq_nat hc
        have HR : Hid (decE (bytesN s) = 33) := Lib.hid (by
          rw [HA.out, if_neg]
          intro h
          have := List.all_eq_true.1 h _ (List.mem_of_getElem? HXK.out)
          rw [HOK.out] at this
          exact hc (by simpa using this))
        clear hc
        go_wp2_with fail
        go_quiet (fail)
        clear h1 c1 c2
        go_wp2_with fail
        go_region_held3 (fun w' => w'.cell? ⟨b, o + k * 4 + 3, none⟩ = some (.int .u32 sm))
          (first
            | assumption
            | exact c3)
          (first
            | (go_at_call 20; (with_reducible refine (CS.out _).mono ?_); rintro e w' ⟨rfl, rfl⟩))
        go_wp2_with fail
        go_ret2
        exact ⟨_, _, rfl, decPost_bad HR.out (by decide), hb1.trans ((below_drewN hb _).mono hb1.size)⟩
    · have hkm : X.take k = X := List.take_of_length_le (by rw [← HM.out]; omega)
      have HR : Hid (decE (bytesN s) = 0) := Lib.hid (by rw [HA.out, if_pos (by rw [← hkm]; exact HK.out)])
      rw [hkm] at hown
      have HO : Hid (OwnP wr w.heap.size _ (decP (bytesN s))) := Lib.hid (by rw [decP_ok HR.out, ← HX.out]; exact Own.lower hown hb1.size)
      clear hkm hown
      go_wp2_with fail
      go_ret2
      exact ⟨_, _, rfl, ⟨HR.out.symm, HO.out⟩, hb1.trans (hb.mono hb1.size)⟩

set_option maxRecDepth 100000 in
set_option maxHeartbeats 1000000 in
/-- same, at two lists that are equal. -/
theorem same_any (v1 v2 : Value) (l : List Prt) (w : World) (h1 : Parts w w.heap.size v1 l) (h2 : Parts w w.heap.size v2 l) :
    Calls Try.prog 25 #[v1, v2] w fun e w' => e = .returned (.bool true) ∧ ∃ n, w' = w.drewN n := by
  obtain ⟨A1, c1, rfl, hl1, hc1, HP1⟩ := h1.part
  obtain ⟨A2, c2, rfl, hl2, hc2, HP2⟩ := h2.part
  have HP1 := Lib.hid HP1
  have HP2 := Lib.hid HP2
  obtain ⟨m, hm⟩ : ∃ m, m = l.length := ⟨_, rfl⟩
  have HM := Lib.hid hm
  rw [← hm] at hl1 hl2 ⊢
  clear h1 h2 hm
  have hmm := eq_nat m
  go_enter Try.func25, Try.ntmps25
  go_wp2_with fail
  go_loopw [5] (fun iv wr => ∃ k n : Nat, k ≤ m ∧ iv = .int .i64 k ∧ wr = w.drewN n) (fun iv _ => m - (intOf iv).toNat)
  case atStart => exact ⟨0, 0, Nat.zero_le _, rfl, rfl⟩
  case round =>
    obtain ⟨k, n, hk, rfl, hw⟩ := hrel
    subst hw
    by_cases hlt : k < m
    · obtain ⟨b1, o1, rfl, _, g1, g2⟩ := HP1.out k (by rw [← HM.out]; exact hlt)
      obtain ⟨b2, o2, rfl, _, g3, g4⟩ := HP2.out k (by rw [← HM.out]; exact hlt)
      obtain ⟨x, hx⟩ : ∃ x, x = l[k]'(by rw [← HM.out]; exact hlt) := ⟨_, rfl⟩
      rw [← hx] at g1 g2 g3 g4
      clear hx
      obtain ⟨x0, x1⟩ := x
      simp only at g1 g2 g3 g4
      have k4 : (k : Int) < (m : Int) := by omega
      go_wp2_with fail
      go_quiet (fail)
      go_wp2_with fail
      exact ⟨⟨k + 1, _, by omega, by go_num, rfl⟩, by simp [intOf]; omega⟩
    · go_wp2_with fail
      go_ret
      exact ⟨rfl, _, rfl⟩
end Go.Proofs.Ytdnaifkcogadkaa
