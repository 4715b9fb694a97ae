/- Walks: Decode; the law's decode; same. -/
import Derived.Test.YtdnaifkcogadkaaR6
namespace Go.Proofs.Ytdnaifkcogadkaa
open Go.RowKit

theorem encP_eachR (x : Prt) : ∀ u ∈ encP x, u.oneCell' = true := fun u hu => encP_one [x] u (by simpa using hu)
theorem partOf_data (s : ByteArray) (x : Ent × Nat) : partOf (bytesN s) x = (x.1.name, dataS s x) := by unfold partOf; rw [dataS_ofN]

set_option maxRecDepth 100000 in
set_option maxHeartbeats 4000000 in
theorem decode_any (s : ByteArray) (w : World) (hs : s.size ≤ 1048576000) :
    Calls Try.prog 23 #[.string s] w fun e w' => ∃ v n, e = .returned (.tuple #[v, .int .i64 n]) ∧ DecPost w.heap.size (bytesN s) v n w' ∧ Below w.heap.size w w' := by
  obtain ⟨i0, hi, hz0, hz1, hz2⟩ := info_parts info38
  have hlen := Lib.hid (bytesN_length s)
  by_cases he : dirE (bytesN s) = 0
  case neg =>
    obtain ⟨z, hz⟩ : ∃ z, z = dirE (bytesN s) := ⟨_, rfl⟩
    have hz0 : z ≠ 0 := by rw [hz]; exact he
    have hzb : (z == 0) = false := by simpa using hz0
    have hzn : (z != 0) = true := by simpa using hz0
    have HD : Hid (decE (bytesN s) = z) := Lib.hid (by rw [decE_dir he, hz])
    have HZ := Lib.hid hz
    clear hz he
    go_enter Try.func23, Try.ntmps23
    go_wp2_with fail
    refine (directory_any s w hs).mono ?_
    rintro e w1 ⟨v, n, rfl, ⟨hn, _, _⟩, hb1⟩
    rw [← HZ.out] at hn
    subst hn
    go_wp2_with fail
    go_ret2
    exact ⟨_, _, rfl, decPost_bad HD.out hz0, hb1⟩
  have HE := Lib.hid he
  have HL := Lib.hid (dirX_each (bytesN s))
  have hXl := dirX_len (bytesN s)
  have HA : Hid (decE (bytesN s) = if (dirX (bytesN s)).all (datOk (bytesN s)) = true then 0 else 33) := Lib.hid (decE_all he)
  clear he
  go_enter Try.func23, Try.ntmps23
  go_wp2_with fail
  refine (directory_any s w hs).mono ?_
  rintro e w1 ⟨v, n, rfl, ⟨hn, _, hents⟩, hb1⟩
  rw [HE.out] at hn
  subst hn
  obtain ⟨X, hX⟩ : ∃ X, X = dirX (bytesN s) := ⟨_, rfl⟩
  rw [← hX] at HL HA hents hXl
  have HX := Lib.hid hX
  clear hX
  obtain ⟨A, c, rfl, hlc, hcm, _⟩ := id hents
  unfold maxLen at hcm
  have HEN := Lib.hid hents
  obtain ⟨m, hm⟩ : ∃ m, m = X.length := ⟨_, rfl⟩
  rw [← hm] at HEN hlc hXl ⊢
  have HM := Lib.hid hm
  clear hents hm
  go_wp2_with fail
  go_loopw [6, 21] (fun ov iv wr => ∃ k : Nat, k ≤ m ∧ iv = .int .i64 k ∧ Hid ((X.take k).all (datOk (bytesN s)) = true) ∧ OwnP wr w1.heap.size ov ((X.take k).map (partOf (bytesN s))) ∧ Below w1.heap.size w1 wr) (fun _ iv _ => m - (intOf iv).toNat)
  case atStart => exact ⟨0, Nat.zero_le _, rfl, Lib.hid rfl, Own.nil _ _, Below.refl _ _⟩
  case round =>
    obtain ⟨k, hk, rfl, HK, hown, hb⟩ := hrel
    have hbz := hb.size
    by_cases hlt : k < m
    · obtain ⟨x, hx⟩ : ∃ x, X[k]? = some x := ⟨X[k]'(by rw [← HM.out]; exact hlt), by simp⟩
      obtain ⟨b, o, hA, hbB, c0, c1, c2, c3⟩ := Ents.at (Sl.over HEN.out hb) k x hx
      subst hA
      have HT : Hid (X.take (k + 1) = X.take k ++ [x]) := Lib.hid (by rw [List.take_add_one, hx]; rfl)
      obtain ⟨e1, e2, e3⟩ := HL.out x (List.mem_of_getElem? hx)
      rw [hlen.out] at e1
      have HXK := Lib.hid hx
      clear hx e3
      obtain ⟨⟨nm, sz, sm⟩, off⟩ := x
      simp only at c0 c1 c2 c3 e1 e2
      have bx : BoxE (wr.alloc (.cells #[.string nm, .int .i64 off, .int .i64 sz, .int .u32 sm] 43)) wr.heap.size ⟨nm, sz, sm⟩ off := heap_alloc_new _ _
      have bw : Below w1.heap.size w1 (wr.alloc (.cells #[.string nm, .int .i64 off, .int .i64 sz, .int .u32 sm] 43)) := hb.alloc hbz _
      have HO := Lib.hid (Own.alloc hown (.cells #[.string nm, .int .i64 off, .int .i64 sz, .int .u32 sm] 43))
      clear hown
      obtain ⟨q0, q1, q2, q3, _⟩ := BoxE.cs bx
      have BX := Lib.hid bx
      clear bx
      by_cases hok : datOk (bytesN s) ((⟨nm, sz, sm⟩ : Ent), off) = true
      · have HOK := Lib.hid hok
        have HKn : Hid ((X.take (k + 1)).all (datOk (bytesN s)) = true) := Lib.hid (by rw [HT.out, List.all_append, HK.out]; simp [hok])
        clear hok
        go_wp2_with fail
        refine (data_any s nm off sz sm _ hs e1).mono ?_
        rintro e w2 ⟨d, n, rfl, hdp, hb2⟩
        unfold datPost at hdp
        rw [if_pos HOK.out] at hdp
        obtain ⟨hd, rfl⟩ := hdp
        have HDP : Hid (d = dataS s ((⟨nm, sz, sm⟩ : Ent), off)) := Lib.hid hd
        clear hd q1 q2 q3
        have q5 := cell_over q0 hb2
        have hown2 := HO.out.over hb2
        have bw2 := bw.trans (hb2.mono bw.size)
        have hbz2 := bw2.size
        have hkl : ((X.take k).map (partOf (bytesN s))).length ≤ 64 := by rw [List.length_map, List.length_take]; omega
        have HPn : Hid ((X.take (k + 1)).map (partOf (bytesN s)) = (X.take k).map (partOf (bytesN s)) ++ [(nm, d)]) := Lib.hid (by rw [HT.out, List.map_append, HDP.out, List.map_singleton, partOf_data])
        obtain ⟨P, hP⟩ : ∃ P, P = (X.take k).map (partOf (bytesN s)) := ⟨_, rfl⟩
        rw [← hP] at hkl hown2 HPn
        clear hP
        go_wp2_with (at_builtin; go_loud (refine wpList_push _ rfl _ _ 22 rfl w1.heap.size 38 i0 _ 2 32 Try.underlying22 hi hz0 hz1 hz2 rfl (by decide) encP_length encP_eachR _ P rfl (Own.alloc hown2 _) w2.heap.size 1 (nm, d) rfl (cells_new w2 (encP (nm, d)) 38) (by omega) (by omega) (by simp; omega) ?_; intro v3 w3 hown3 hg3))
        have hb3 : Below w1.heap.size w1 w3 := (bw2.alloc hbz2 (.cells #[.string nm, .string d] 38)).trans (Own.belowG (Own.alloc hown2 (.cells #[.string nm, .string d] 38)) (by simp; omega) hg3)
        go_roundw
        case rel => exact ⟨k + 1, by omega, by go_num, HKn, by rw [HPn.out]; exact hown3, hb3⟩
        case measure => simp [intOf]; omega
      · have hok0 : datOk (bytesN s) ((⟨nm, sz, sm⟩ : Ent), off) = false := by simpa using hok
        have HR : Hid (decE (bytesN s) = 33) := Lib.hid (by
          rw [HA.out, if_neg]
          intro h
          exact hok (List.all_eq_true.1 h _ (List.mem_of_getElem? HXK.out)))
        have HOK := Lib.hid hok0
        clear hok hok0
        go_wp2_with fail
        refine (data_any s nm off sz sm _ hs e1).mono ?_
        rintro e w2 ⟨d, n, rfl, hdp, hb2⟩
        unfold datPost at hdp
        rw [if_neg (by rw [HOK.out]; decide)] at hdp
        obtain ⟨rfl, rfl⟩ := hdp
        have bw2 := bw.trans (hb2.mono bw.size)
        go_wp2_with fail
        go_ret2
        exact ⟨_, _, rfl, decPost_bad HR.out (by decide), hb1.trans (bw2.mono hb1.size)⟩
    · have hkm : X.take k = X := List.take_of_length_le (by rw [← HM.out]; omega)
      have HR : Hid (decE (bytesN s) = 0) := Lib.hid (by rw [HA.out, if_pos (by rw [← hkm]; exact HK.out)])
      rw [hkm] at hown
      have HO : Hid (OwnP wr w.heap.size _ (decP (bytesN s))) := Lib.hid (by rw [decP_ok HR.out, ← HX.out]; exact Own.lower hown hb1.size)
      clear hkm hown
      go_wp2_with fail
      go_ret2
      exact ⟨_, _, rfl, ⟨HR.out.symm, HO.out⟩, hb1.trans (hb.mono hb1.size)⟩
end Go.Proofs.Ytdnaifkcogadkaa
