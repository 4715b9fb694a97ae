/- Walk: the law ArchiveRemoves. -/
import Derived.Test.YtdnaifkcogadkaaK3
import Derived.Test.YtdnaifkcogadkaaE5
namespace Go.Proofs.Ytdnaifkcogadkaa
open Go.RowKit

theorem Good.rest {l : List Prt} (h : Good l) (nm : ByteArray) : Good (restP nm l) :=
  ⟨Nat.le_trans (restP_len nm l) h.len, fun p hp => h.each p (List.mem_filter.1 hp).1, List.Nodup.sublist (List.Sublist.map _ List.filter_sublist) h.apart⟩
theorem any_perm {l q : List Prt} (h : q.Perm l) (nm : ByteArray) : q.any (prN nm) = l.any (prN nm) := by
  rw [Bool.eq_iff_iff, List.any_eq_true, List.any_eq_true]
  exact ⟨fun ⟨x, hx, hp⟩ => ⟨x, h.mem_iff.1 hx, hp⟩, fun ⟨x, hx, hp⟩ => ⟨x, h.mem_iff.2 hx, hp⟩⟩
/-- Two encodings of the same parts. -/
theorem encPost_two {l m : List Prt} {s t : ByteArray} {i j : Int} (hg : Good l) (hp : m.Perm l) (h1 : encPost l s i) (h2 : encPost m t j) : t = s ∧ i = 0 ∧ j = 0 := by
  have he := (good_iff l).2 hg
  obtain ⟨q, hA⟩ := h1.arc he
  obtain ⟨a, b⟩ := encPost.perm hp he hA h2
  exact ⟨a, h1.1.trans he, b⟩

set_option maxRecDepth 100000 in
set_option maxHeartbeats 4000000 in
theorem removes_any (v : Value) (l : List Prt) (s0 u0 : ByteArray) (w : World) (h : Parts w w.heap.size v l) (hs : s0.size ≤ 9223372036854775807) (hu : u0.size ≤ 9223372036854775807) :
    Calls Try.prog 11 #[v, .string s0, .string u0] w fun e w' => e = .returned (.bool true) ∧ Below w.heap.size w w' := by
  have m0 : (0 : Int) ≤ min (s0.size : Int) 60 := by omega
  have m1 : min (s0.size : Int) 60 ≤ (s0.size : Int) := by omega
  have m2 : (0 : Int) ≤ min (u0.size : Int) 100 := by omega
  have m3 : min (u0.size : Int) 100 ≤ (u0.size : Int) := by omega
  obtain ⟨nm, hnm⟩ : ∃ t, t = s0.extract 0 (min (s0.size : Int) 60).toNat := ⟨_, rfl⟩
  obtain ⟨ot, hot⟩ : ∃ t, t = u0.extract 0 (min (u0.size : Int) 100).toNat := ⟨_, rfl⟩
  have hos : ot.size ≤ 100 := by rw [hot, ByteArray.size_extract]; omega
  have hnm' := hnm.symm
  have hot' := hot.symm
  clear hnm hot
  have hF := Lib.hid (few_any v l w.drew h)
  have hSm := Lib.hid (few_small l)
  obtain ⟨f, hf⟩ : ∃ f, f = fewL l := ⟨_, rfl⟩
  rw [← hf] at hSm hF
  clear hf h
  go_enter Try.func11, Try.ntmps11
  go_wp2_with fail
  go_region_held_law (fun _ => True) (trivial)
    (first
      | (go_at_call 13; (with_reducible refine hF.out.mono ?_); rintro e w1 ⟨v1, rfl, hown, hk1⟩))
  all_goals (
    have hP1 := hown.sl encP_length
    have hk1' : Below w.heap.size w w1 := ((Below.refl w.heap.size w).drew).trans hk1
    clear hown hk1 hF
    go_wp2_with fail
    refine (known_any w1).mono ?_
    rintro e w2 ⟨rfl, hk2⟩
    have hP2 := hP1.over hk2
    have hb2 := hk1'.trans (hk2.mono hk1'.size)
    clear hP1 hk1' hk2
    go_wp2_with fail
    refine (decode_ref ot w2 (by omega)).mono ?_
    rintro e w3 ⟨vd, nd, rfl, hd, hk3⟩
    have hD := Lib.hid hd.1
    have hP3 := hP2.over hk3
    have hb3 := hb2.trans (hk3.mono hb2.size)
    clear hd hP2 hb2 hk3
    go_wp2_with fail
    refine (remove_any ot nm w3 (by omega)).mono ?_
    rintro e w4 ⟨t, nt, rfl, hr, hk4⟩
    have hP4 := hP3.over hk4
    have hb4 := hb3.trans (hk4.mono hb3.size)
    clear hP3 hb3 hk4
    have HR := Lib.hid hr
    clear hr
    have hcase : (nd != 0) = false ∨ ((nd != 0) = true ∧ t = ⟨#[]⟩ ∧ nt = nd) := by
      by_cases h0 : nd = 0
      · exact .inl (by simpa using h0)
      · refine .inr ⟨by simpa using h0, ?_⟩
        have h1 := HR.out
        unfold remPost at h1
        rw [if_pos (by rw [← hD.out]; exact h0)] at h1
        exact ⟨h1.1, h1.2.trans hD.out.symm⟩
    have HE := Lib.hid (encode_ref v1 f w4 hP4 hSm.out)
    clear HR hD
    have hz9 : (nd != nd) = false := by simp
    rcases hcase with hz | ⟨hz, rfl, rfl⟩
    all_goals (
      go_wp2_with fail
      refine HE.out.mono ?_
      rintro e w5 ⟨s, n, rfl, hp, hk5⟩
      have hP5 := hP4.over hk5
      have hb5 := hb4.trans (hk5.mono hb4.size)
      clear hP4 hb4 hk5 HE
      by_cases he : errE f = 0
      case neg =>
        have hn : n ≠ 0 := by rw [hp.1]; exact he
        have hn1 : (n != 0) = true := by simpa using hn
        clear hp he hn
        go_wp2_with fail
        go_ret
        exact ⟨rfl, hb5⟩
      obtain ⟨q, hA⟩ := hp.arc he
      have hn : n = 0 := hp.1.trans he
      have HA := Lib.hid hA
      have hsz := hA.size
      have HG := Lib.hid ((good_iff f).1 he)
      clear hp he hA
      subst hn
      go_wp2_with fail
      refine (remove_any s nm w5 (by omega)).mono ?_
      rintro e w6 ⟨t6, n6, rfl, hr6, hk6⟩
      have HR6 := Lib.hid hr6
      have hP6 := hP5.over hk6
      have hb6 := hb5.trans (hk6.mono hb5.size)
      clear hP5 hb5 hk6 hr6
      go_wp2_with fail
      refine (without_any v1 f nm w6 hP6 (by have := HG.out.len; omega)).mono ?_
      rintro e w7 ⟨v7, rfl, hown7, hk7⟩
      have hb7 := hb6.trans (hk7.mono hb6.size)
      have hP7 := hown7.sl encP_length
      clear hown7 hk7 hb6 hP6
      have hr6 := HR6.out
      unfold remPost at hr6
      rw [if_neg (by rw [HA.out.back.dec]; decide), HA.out.back.parts, any_perm HA.out.perm nm] at hr6
      by_cases ha : f.any (prN nm) = false
      · rw [if_pos ha] at hr6
        obtain ⟨ht6, hn6⟩ := hr6
        subst ht6 hn6
        rw [ha]
        clear ha
        go_wp2_with fail
        go_ret
        exact ⟨rfl, hb7⟩
      · rw [if_neg ha] at hr6
        have ha' : f.any (prN nm) = true := by simpa using ha
        rw [ha']
        have H6 := Lib.hid hr6
        clear ha ha' hr6
        go_wp2_with fail
        refine (encode_ref v7 (restP nm f) w7 hP7 (restP_small hSm.out)).mono ?_
        rintro e w8 ⟨u8, n8, rfl, hp8, hk8⟩
        obtain ⟨ht, _, hn6⟩ := encPost_two (HG.out.rest nm) (List.Perm.filter _ HA.out.perm) hp8 H6.out
        have hb8 := hb7.trans (hk8.mono hb7.size)
        subst ht hn6
        clear hp8 hk8 hb7 hP7 H6
        go_wp2_with fail
        go_ret
        exact ⟨rfl, hb8⟩))
end Go.Proofs.Ytdnaifkcogadkaa
