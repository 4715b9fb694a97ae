/- Walk: the law ArchiveReturns. -/
import Derived.Test.YtdnaifkcogadkaaB1
import Derived.Test.YtdnaifkcogadkaaDecodes
import Derived.Test.YtdnaifkcogadkaaE4
namespace Go.Proofs.Ytdnaifkcogadkaa
open Go.RowKit

theorem Small.perm {l q : List Prt} (h : Small l) (hp : q.Perm l) : Small q := ⟨by rw [hp.length_eq]; exact h.1, fun p hq => h.2 p (hp.mem_iff.1 hq)⟩
theorem dataL_len (q : List Prt) (h : ∀ p ∈ q, p.2.size ≤ 1048576) : (dataL q).length ≤ q.length * 1048576 := by
  induction q with
  | nil => simp [dataL]
  | cons p r ih =>
    have h1 := ih (fun x hx => h x (by simp [hx]))
    have h2 := h p (by simp)
    rw [dataL_cons, List.length_append, List.length_cons, bytesN_length]
    omega
theorem encL_len {q : List Prt} (h : Good q) : (encL q).length = 16 + (dirL q).length + (dataL q).length ∧ (encL q).length ≤ 70000000 := by
  have e : (encL q).length = 16 + (dirL q).length + (dataL q).length := by
    unfold encL
    rw [List.length_append, List.length_append, headL_lenN, put32_len]; omega
  have h1 := dirL_len q (fun p hp => h.name hp)
  have h2 := dataL_len q (fun p hp => (h.each p hp).2)
  have h3 := h.len
  exact ⟨e, by omega⟩
/-- An archive: the string of parts in order. -/
structure ArcOf (l : List Prt) (s : ByteArray) (q : List Prt) : Prop where
  perm : q.Perm l
  sorted : SortedP q
  bytes : bytesN s = encL q
  good : Good q
  size : s.size ≤ 70000000
theorem encPost.arc {l : List Prt} {s : ByteArray} {n : Int} (h : encPost l s n) (he : errE l = 0) : ∃ q, ArcOf l s q := by
  obtain ⟨q, h1, h2, h3⟩ := h.2.2 he
  have hg := ((good_iff l).1 he).perm h1
  exact ⟨q, h1, h2, h3, hg, by rw [← bytesN_length, h3]; exact (encL_len hg).2⟩
theorem encPost.perm {l m : List Prt} {s t : ByteArray} {n : Int} (hp : m.Perm l) (he : errE l = 0) {q : List Prt} (h1 : ArcOf l s q) (h2 : encPost m t n) : t = s ∧ n = 0 := by
  have hem : errE m = 0 := (good_iff m).2 (((good_iff l).1 he).perm hp)
  obtain ⟨r, hr1, hr2, hr3⟩ := h2.2.2 hem
  obtain rfl := sorted_one (errE_apart he) h1.perm (hr1.trans hp) h1.sorted hr2
  exact ⟨bytesN_inj (hr3.trans h1.bytes.symm), h2.1.trans hem⟩
theorem ArcOf.back {l q : List Prt} {s : ByteArray} (h : ArcOf l s q) : EncOk q (bytesN s) := by rw [h.bytes]; exact enc_back h.good h.sorted

set_option maxRecDepth 100000 in
set_option maxHeartbeats 4000000 in
theorem returns_any (v : Value) (l : List Prt) (w : World) (h : Parts w w.heap.size v l) : Calls Try.prog 8 #[v] w fun e w' => e = .returned (.bool true) ∧ Below w.heap.size w w' := by
  obtain ⟨i0, hi, hz0, hz1, hz2⟩ := info_parts info38
  go_enter Try.func8, Try.ntmps8
  go_wp2_with fail
  refine (few_any v l w h).mono ?_
  rintro e w1 ⟨v1, rfl, hown, hk1⟩
  have hP1 := hown.sl encP_length
  clear hown h
  have hSm := Lib.hid (few_small l)
  have h70 : (fewL l).length ≤ 70 := by unfold fewL; rw [List.length_map, List.length_take]; omega
  obtain ⟨f, hf⟩ : ∃ f, f = fewL l := ⟨_, rfl⟩
  rw [← hf] at hP1 hSm h70
  clear hf
  go_wp2_with fail
  refine (known_any w1).mono ?_
  rintro e w2 ⟨rfl, hk2⟩
  have hP2 := hP1.over hk2
  have hb2 := hk1.trans (hk2.mono hk1.size)
  clear hP1 hk1 hk2
  go_wp2_with fail
  refine (encode_any v1 f w2 hP2 hSm.out).mono ?_
  rintro e w3 ⟨s, n, rfl, hp, hk3⟩
  have hP3 := hP2.over hk3
  have hb3 := hb2.trans (hk3.mono hb2.size)
  clear hP2 hb2 hk3
  by_cases he : errE f = 0
  case neg =>
    have hs := hp.2.1 he
    have hn : n ≠ 0 := by rw [hp.1]; exact he
    have hn1 : (n != 0) = true := by simpa using hn
    have hn2 : (n == 0) = false := by simpa using hn
    clear hp he hn
    subst hs
    go_wp2_with fail
    go_ret
    exact ⟨rfl, hb3⟩
  obtain ⟨q, hA⟩ := hp.arc he
  have hn : n = 0 := hp.1.trans he
  have HE := Lib.hid he
  have HA := Lib.hid hA
  have hsz := hA.size
  clear hp he hA
  subst hn
  go_wp2_with fail
  refine (decode_any s _ (by omega)).mono ?_
  rintro e w4 ⟨vp, np, rfl, hd, hk4⟩
  have hP4 := hP3.over hk4
  have hb4 := hb3.trans (hk4.mono hb3.size)
  have hQ := hd.2.sl encP_length
  rw [HA.out.back.parts] at hQ
  have hnp := hd.1.trans HA.out.back.dec
  clear hd hk4 hP3 hb3
  subst hnp
  go_wp2_with fail
  refine (ordered_any v1 f w4 hP4 hSm.out.1).mono ?_
  rintro e w5 ⟨vo, qo, rfl, hperm, hsort, hown5, hk5⟩
  have hqo := sorted_one (errE_apart HE.out) hperm HA.out.perm hsort HA.out.sorted
  subst hqo
  have hP5 := hP4.over hk5
  have hQ5 := Sl.over hQ hk5
  have hb5 := hb4.trans (hk5.mono hb4.size)
  have hO5 := hown5.sl encP_length
  clear hk5 hP4 hQ hb4 hown5 hperm hsort
  go_wp2_with fail
  refine (same_any vp vo _ w5 hQ5 hO5).mono ?_
  rintro e w6 ⟨rfl, n6, rfl⟩
  have hP6 : Parts (w5.drewN n6) (w5.drewN n6).heap.size v1 f := hP5
  have hQ6 : Parts (w5.drewN n6) (w5.drewN n6).heap.size vp qo := hQ5
  have hb6 := below_drewN hb5 n6
  obtain ⟨w6, hw6⟩ : ∃ w6, w6 = w5.drewN n6 := ⟨_, rfl⟩
  rw [← hw6] at hP6 hQ6 hb6 ⊢
  clear hw6 hP5 hQ5 hO5 hb5
  obtain ⟨A, c, rfl, hlc, hc, HPt⟩ := hP6.part
  have HPt := Lib.hid HPt
  have HP6 := Lib.hid hP6
  have HQ6 := Lib.hid hQ6
  clear hP6 hQ6
  go_wp2_with fail
  go_loopw [7, 8] (fun tv iv wr => ∃ (k : Nat) (i : Int), iv = .int .i64 i ∧ i + 1 ≤ k ∧ (k : Int) ≤ i + 1 ∧ k ≤ f.length ∧ OwnP wr w6.heap.size tv (f.drop k).reverse ∧ Below w6.heap.size w6 wr) (fun _ iv _ => (intOf iv + 1).toNat)
  case atStart => exact ⟨f.length, (f.length : Int) - 1, rfl, by omega, by omega, Nat.le_refl _, by rw [List.drop_length]; exact Own.nil _ _, Below.refl _ _⟩
  case round =>
    obtain ⟨k, i, rfl, hi1, hi2, hk, hown, hb⟩ := hrel
    have hbz := hb.size
    by_cases hpos : 0 < k
    · obtain ⟨j, rfl⟩ : ∃ j : Nat, i = (j : Int) := ⟨i.toNat, by omega⟩
      have hjk : k = j + 1 := by omega
      subst hjk
      have hj : j < f.length := by omega
      obtain ⟨b, o, rfl, hbB, g1, g2⟩ := (HPt.out.below hb) j hj
      have HT : Hid ((f.drop j).reverse = (f.drop (j + 1)).reverse ++ [f[j]]) := Lib.hid (by rw [List.drop_eq_getElem_cons hj, List.reverse_cons])
      obtain ⟨x, hx⟩ : ∃ x, x = f[j] := ⟨_, rfl⟩
      rw [← hx] at g1 g2 HT
      clear hx
      obtain ⟨x0, x1⟩ := x
      simp only at g1 g2
      have hkl : (f.drop (j + 1)).reverse.length ≤ 70 := by rw [List.length_reverse, List.length_drop]; omega
      obtain ⟨P, hP⟩ : ∃ P, P = (f.drop (j + 1)).reverse := ⟨_, rfl⟩
      rw [← hP] at hkl hown HT
      clear hP
      have j4 : (j : Int) < (f.length : Int) := by omega
      go_wp2_with (at_builtin; refine wpList_push _ rfl _ _ 22 rfl w6.heap.size 38 i0 _ 2 32 Try.underlying22 hi hz0 hz1 hz2 rfl (by decide) encP_length encP_eachR _ P rfl (Own.alloc hown _) wr.heap.size 1 (x0, x1) rfl (cells_new wr (encP (x0, x1)) 38) (by omega) (by omega) (by simp; omega) ?_; intro v3 w3 hown3 hg3)
      have hb3 : Below w6.heap.size w6 w3 := (hb.alloc hbz (.cells #[.string x0, .string x1] 38)).trans (Own.belowG (Own.alloc hown (.cells #[.string x0, .string x1] 38)) (by simp; omega) hg3)
      go_roundw
      case rel => exact ⟨j, (j : Int) - 1, rfl, by omega, by omega, by omega, by rw [HT.out]; exact hown3, hb3⟩
      case measure => simp [intOf]
    · have hk0 : k = 0 := by omega
      subst hk0
      obtain rfl : i = -1 := by omega
      rw [List.drop_zero] at hown
      have hT := Lib.hid (hown.sl encP_length)
      have HQr := Lib.hid (HQ6.out.over hb)
      have hb7 := hb6.trans (hb.mono hb6.size)
      clear hown
      go_wp2_with fail
      refine (encode_any vp qo wr HQr.out (hSm.out.perm HA.out.perm)).mono ?_
      rintro e w8 ⟨t, n8, rfl, hp8, hk8⟩
      obtain ⟨ht, hn8⟩ := encPost.perm HA.out.perm HE.out HA.out hp8
      subst ht hn8
      have hT8 := hT.out.over hk8
      have hb8 := hb7.trans (hk8.mono hb7.size)
      clear hp8 hk8 hb7
      go_wp2_with fail
      refine (encode_any _ f.reverse w8 hT8 (hSm.out.perm (List.reverse_perm f))).mono ?_
      rintro e w9 ⟨u, n9, rfl, hp9, hk9⟩
      obtain ⟨hu, hn9⟩ := encPost.perm (List.reverse_perm f) HE.out HA.out hp9
      subst hu hn9
      have hb9 := hb8.trans (hk9.mono hb8.size)
      clear hp9 hk9 hb8 hT8
      go_wp2_with fail
      go_ret
      exact ⟨rfl, hb9⟩
end Go.Proofs.Ytdnaifkcogadkaa
