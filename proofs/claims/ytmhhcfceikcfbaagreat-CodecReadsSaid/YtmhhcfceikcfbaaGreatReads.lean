/- Walk: the law on readings of numbers. -/
import Derived.Test.YtmhhcfceikcfbaaGreatNumbers
namespace Go.Proofs.YtmhhcfceikcfbaaGreat
open Go.RowKit

theorem cut_enc {s : ByteArray} {k k' : Nat} {x : Int} (h : Res rdN s k 0 x k' 0) : s.extract k k' = mkB (encN x) := by
  obtain ⟨_, n, hp, rfl⟩ := h.ok0
  obtain ⟨a1, a2, _⟩ := fitN.read _ x n (fun b hb => bytesN_lt s b (List.mem_of_mem_drop hb)) hp
  apply bytesN_inj
  rw [bytesN_extract, bytesN_mkB (encN_lt x), List.drop_take, Nat.add_sub_cancel_left, a2]

set_option maxRecDepth 100000 in
set_option maxHeartbeats 4000000 in
theorem reads_any (s1 : ByteArray) (at0 : Int) (w : World) (ha : I64 at0) : Calls Tryz.prog 4 #[.string s1, .int .i64 at0] w (TrueC w) := by
  obtain ⟨q1, hq1⟩ : ∃ q, q = (min (s1.size : Int) 200).toNat := ⟨_, rfl⟩
  obtain ⟨t, h1⟩ : ∃ t, t = s1.extract 0 q1 := ⟨_, rfl⟩
  have z1 : t.size ≤ 200 := by rw [h1, ByteArray.size_extract]; omega
  have g1 : (if (200 : Int) < (s1.size : Int) then (200 : Int) else (s1.size : Int)) = (q1 : Int) := by split <;> omega
  have g3 : (q1 : Int) ≤ (s1.size : Int) := by omega
  have x1 := h1.symm
  clear hq1 h1
  have C1 := Lib.hid (fun w => Read14 t at0 w (by omega))
  by_cases h0 : at0 < 0 ∨ (t.size : Int) < at0
  · have e0 : readN t at0 = (0, 0, 2) := by unfold readN; rw [if_pos h0]
    rw [e0] at C1
    rcases Int.lt_or_le at0 0 with h | h
    · have d0 : decide (at0 < 0) = true := by simpa using h
      go_enter Tryz.func4, Tryz.ntmps4
      go_wp2_with fail
      refine (C1.out _).mono ?_
      rintro e w1 ⟨rfl, hb1⟩
      have HB := Lib.hid hb1
      clear hb1 C1 h0
      go_wp2_with fail
      refine (known15 _).mono ?_
      rintro e w3 ⟨rfl, hb3⟩
      have HB3 := Lib.hid (HB.out.trans (hb3.mono HB.out.size))
      clear hb3 HB
      go_wp2_with fail
      go_ret
      exact ⟨rfl, HB3.out⟩
    · have d0 : decide (at0 < 0) = false := by simpa using h
      have h2 : (t.size : Int) < at0 := by omega
      have d1 : decide ((t.size : Int) < at0) = true := by simpa using h2
      go_enter Tryz.func4, Tryz.ntmps4
      go_wp2_with fail
      refine (C1.out _).mono ?_
      rintro e w1 ⟨rfl, hb1⟩
      have HB := Lib.hid hb1
      clear hb1 C1 h0
      go_wp2_with fail
      refine (known15 _).mono ?_
      rintro e w3 ⟨rfl, hb3⟩
      have HB3 := Lib.hid (HB.out.trans (hb3.mono HB.out.size))
      clear hb3 HB
      go_wp2_with fail
      go_ret
      exact ⟨rfl, HB3.out⟩
  · obtain ⟨k, rfl⟩ : ∃ k : Nat, at0 = (k : Int) := ⟨at0.toNat, by omega⟩
    have hk : k ≤ t.size := by omega
    have d0 : decide ((k : Int) < 0) = false := by simp
    have d1 : decide ((t.size : Int) < (k : Int)) = false := by simp; omega
    have HE : Hid (readN t (k : Int) = match rdN ((bytesN t).drop k) with | .ok m n => (m, ((k + n : Nat) : Int), 0) | .err E => (0, 0, E)) := Lib.hid (by unfold readN; rw [if_neg h0]; rfl)
    obtain ⟨R0, hR0⟩ : ∃ R, R = readN t (k : Int) := ⟨_, rfl⟩
    rw [← hR0] at C1 HE
    obtain ⟨r0, r1, r2⟩ := R0
    clear h0 hR0
    go_enter Tryz.func4, Tryz.ntmps4
    go_wp2_with fail
    refine (C1.out _).mono ?_
    rintro e w1 ⟨rfl, hb1⟩
    have HB := Lib.hid (hb1.alloc hb1.size (.cells #[.string t, .int .i64 (k : Int), .int .i64 0] 30))
    obtain ⟨p, hp⟩ : ∃ p, p = w1.heap.size := ⟨_, rfl⟩
    have hr : Rdr 30 p t k 0 (w1.alloc (.cells #[.string t, .int .i64 (k : Int), .int .i64 0] 30)) := by rw [hp]; exact heap_alloc_new w1 _
    have hwp : w.heap.size ≤ p := by rw [hp]; exact hb1.size
    have hws : w.heap.size ≤ w1.heap.size := hb1.size
    have C := Lib.hid (number17_any p k t 0 _ hr hk (by omega))
    clear hb1 C1 hr
    go_upto_region 6 with fail
    rw [← hp]
    clear hp
    go_wp2_with fail
    refine C.out.mono ?_
    rintro e w2 ⟨x, q, e', rfl, hx, hr, hg, hres⟩
    replace HB := Lib.hid (HB.out.grown hg (Nat.le_trans hws (by simp)) (fun k hk => by injection hk with hk; omega))
    clear C hg
    obtain ⟨c0, c1, c2, f1, f2⟩ := hr.cells
    have HR := Lib.hid hres
    clear hres
    rcases Int.decEq e' 0 with he | he
    · have hh := HR.out.2.2 rfl
      have h2 := HE.out
      obtain ⟨a1, a2, a3⟩ : r0 = 0 ∧ r1 = 0 ∧ r2 = e' := by
        cases hq : rdN ((bytesN t).drop k) with
        | ok m n => rw [hq] at hh; exact absurd hh.2.2 he
        | err E =>
          rw [hq] at hh h2
          simp only at h2
          injection h2 with e1 e2
          injection e2 with e2 e3
          exact ⟨e1, e2, e3.trans hh.1.symm⟩
      subst a1 a2 a3
      have d2 : (r2 != 0) = true := by simpa using he
      have Hr := Lib.hid hr
      clear hh h2 HE HR he hr
      go_wp2_with fail
      refine (known15 _).mono ?_
      rintro e w3 ⟨rfl, hb3⟩
      have HB3 := Lib.hid (HB.out.trans (hb3.mono HB.out.size))
      have hr3 : Rdr 30 p t q r2 w3 := (hb3.block _ (lt_of_blk Hr.out)).trans Hr.out
      clear hb3 HB c0 c1 c2 f1 f2 Hr
      have c2 := hr3.cells.2.2.1
      clear hr3
      go_wp2_with fail
      go_ret
      exact ⟨rfl, HB3.out⟩
    · subst he
      have hh := HR.out.2.2 rfl
      have h2 := HE.out
      obtain ⟨a1, a2, a3⟩ : r0 = x ∧ r1 = (q : Int) ∧ r2 = 0 := by
        cases hq : rdN ((bytesN t).drop k) with
        | ok m n =>
          rw [hq] at hh h2
          simp only at h2
          injection h2 with e1 e2
          injection e2 with e2 e3
          exact ⟨e1.trans hh.1.symm, e2.trans (by rw [hh.2.1]), e3⟩
        | err E => rw [hq] at hh; exact absurd hh.1.symm hh.2
      subst a1 a2 a3
      have hkq : k ≤ q := HR.out.le
      have hqt : q ≤ t.size := HR.out.1
      obtain ⟨N, hN⟩ : ∃ N, N = mkB (encN r0) := ⟨_, rfl⟩
      have hcut : t.extract k q = N := by rw [hN]; exact cut_enc HR.out
      have C2 : Hid (∀ w, Calls Tryz.prog 13 #[.int .i64 r0] w fun e w' => e = .returned (.string N) ∧ Below w.heap.size w w') := Lib.hid (fun w => by rw [hN]; exact Number13 r0 hx w)
      have b1 : (0 : Int) ≤ (k : Int) := by omega
      have b2 : (k : Int) ≤ (q : Int) := by omega
      have b3 : (q : Int) ≤ (t.size : Int) := by omega
      clear hh h2 HE HR hN
      go_upto_region 9 with fail
      refine wp_region_guard (S := fun w' => Rdr 30 p t q 0 w') [(false, 0), (true, 1), (true, 2), (true, 3), (true, 4), (true, 5), (true, 6), (true, 7), (true, 8), (true, 9), (true, 10), (true, 11), (true, 12), (true, 13), (true, 14), (true, 15), (true, 16), (true, 17), (true, 18), (true, 19), (true, 20), (true, 21), (true, 22), (true, 23), (false, 24), (true, 25), (true, 26), (true, 27)] (by kernel_rfl) (by kernel_rfl) hr ?_
      simp only [pickL, List.getElem?_cons_succ, List.getElem?_cons_zero]
      refine hd_run rfl ?_
      refine sq_call 15 #[] (by go_simp) ?_
      refine Calls.mono (known15 _) ?_
      rintro e w5 ⟨rfl, hb5⟩
      replace hr := (hb5.block _ (lt_of_blk hr)).trans hr
      replace HB := Lib.hid (HB.out.drew.trans (hb5.mono HB.out.size))
      clear hb5
      refine ⟨_, rfl, hr, ?_⟩
      refine sq_done ?_
      simp only [Act.put, List.setIfInBounds_toArray, List.set_cons_zero, List.set_cons_succ]
      refine hd_load (.bool true) rfl (fun w' hS => by go_simp) ?_
      simp only [Act.put, List.setIfInBounds_toArray, List.set_cons_zero, List.set_cons_succ]
      refine hd_load (.int .i64 r0) rfl (fun w' hS => by go_simp) ?_
      simp only [Act.put, List.setIfInBounds_toArray, List.set_cons_zero, List.set_cons_succ]
      refine hd_load (.int .i64 r0) rfl (fun w' hS => by go_simp) ?_
      simp only [Act.put, List.setIfInBounds_toArray, List.set_cons_zero, List.set_cons_succ]
      refine hd_load (.bool true) rfl (fun w' hS => by go_simp) ?_
      simp only [Act.put, List.setIfInBounds_toArray, List.set_cons_zero, List.set_cons_succ]
      refine hd_load (.bool true) rfl (fun w' hS => by go_simp) ?_
      simp only [Act.put, List.setIfInBounds_toArray, List.set_cons_zero, List.set_cons_succ]
      refine hd_load (.bool true) rfl (fun w' hS => by go_simp) ?_
      simp only [Act.put, List.setIfInBounds_toArray, List.set_cons_zero, List.set_cons_succ]
      refine hd_load (.int .i64 (q : Int)) rfl (fun w' hS => by go_simp) ?_
      simp only [Act.put, List.setIfInBounds_toArray, List.set_cons_zero, List.set_cons_succ]
      refine hd_load (.pointer (some ⟨p, 0, none⟩)) rfl (fun w' hS => by go_simp) ?_
      simp only [Act.put, List.setIfInBounds_toArray, List.set_cons_zero, List.set_cons_succ]
      refine hd_load (.pointer (some ⟨p, 0, none⟩)) rfl (fun w' hS => by go_simp) ?_
      simp only [Act.put, List.setIfInBounds_toArray, List.set_cons_zero, List.set_cons_succ]
      refine hd_load (.pointer (some ⟨p, 1, none⟩)) rfl (fun w' hS => by go_simp) ?_
      simp only [Act.put, List.setIfInBounds_toArray, List.set_cons_zero, List.set_cons_succ]
      refine hd_load (.int .i64 (q : Int)) rfl (fun w' hS => by have hq := (Rdr.cells hS).2.1; go_simp) ?_
      simp only [Act.put, List.setIfInBounds_toArray, List.set_cons_zero, List.set_cons_succ]
      refine hd_load (.bool true) rfl (fun w' hS => by go_simp) ?_
      simp only [Act.put, List.setIfInBounds_toArray, List.set_cons_zero, List.set_cons_succ]
      refine hd_load (.bool true) rfl (fun w' hS => by go_simp) ?_
      simp only [Act.put, List.setIfInBounds_toArray, List.set_cons_zero, List.set_cons_succ]
      refine hd_load (.bool true) rfl (fun w' hS => by go_simp) ?_
      simp only [Act.put, List.setIfInBounds_toArray, List.set_cons_zero, List.set_cons_succ]
      refine hd_load (.int .i64 0) rfl (fun w' hS => by go_simp) ?_
      simp only [Act.put, List.setIfInBounds_toArray, List.set_cons_zero, List.set_cons_succ]
      refine hd_load (.bool true) rfl (fun w' hS => by go_simp) ?_
      simp only [Act.put, List.setIfInBounds_toArray, List.set_cons_zero, List.set_cons_succ]
      refine hd_load (.bool true) rfl (fun w' hS => by go_simp) ?_
      simp only [Act.put, List.setIfInBounds_toArray, List.set_cons_zero, List.set_cons_succ]
      refine hd_load (.bool true) rfl (fun w' hS => by go_simp) ?_
      simp only [Act.put, List.setIfInBounds_toArray, List.set_cons_zero, List.set_cons_succ]
      refine hd_load (.string t) rfl (fun w' hS => by go_simp) ?_
      simp only [Act.put, List.setIfInBounds_toArray, List.set_cons_zero, List.set_cons_succ]
      refine hd_load (.int .i64 (k : Int)) rfl (fun w' hS => by go_simp) ?_
      simp only [Act.put, List.setIfInBounds_toArray, List.set_cons_zero, List.set_cons_succ]
      refine hd_load (.int .i64 (q : Int)) rfl (fun w' hS => by go_simp) ?_
      simp only [Act.put, List.setIfInBounds_toArray, List.set_cons_zero, List.set_cons_succ]
      refine hd_load (.string N) rfl (fun w' hS => by go_simp) ?_
      simp only [Act.put, List.setIfInBounds_toArray, List.set_cons_zero, List.set_cons_succ]
      refine hd_load (.int .i64 r0) rfl (fun w' hS => by go_simp) ?_
      simp only [Act.put, List.setIfInBounds_toArray, List.set_cons_zero, List.set_cons_succ]
      refine hd_run rfl ?_
      refine sq_call 13 #[.int .i64 r0] (by go_simp) ?_
      refine Calls.mono (C2.out _) ?_
      rintro e w6 ⟨rfl, hb6⟩
      replace hr := (hb6.block _ (lt_of_blk hr)).trans hr
      replace HB := Lib.hid (HB.out.trans (hb6.mono HB.out.size))
      clear hb6
      refine ⟨_, rfl, hr, ?_⟩
      refine sq_done ?_
      simp only [Act.put, List.setIfInBounds_toArray, List.set_cons_zero, List.set_cons_succ]
      refine hd_load (.bool true) rfl (fun w' hS => by go_simp) ?_
      simp only [Act.put, List.setIfInBounds_toArray, List.set_cons_zero, List.set_cons_succ]
      refine hd_load (.bool true) rfl (fun w' hS => by go_simp) ?_
      simp only [Act.put, List.setIfInBounds_toArray, List.set_cons_zero, List.set_cons_succ]
      refine hd_load (.bool true) rfl (fun w' hS => by go_simp) ?_
      simp only [Act.put, List.setIfInBounds_toArray, List.set_cons_zero, List.set_cons_succ]
      refine hd_done ?_
      go_wp2_with fail
      go_ret
      exact ⟨rfl, HB.out⟩
end Go.Proofs.YtmhhcfceikcfbaaGreat
