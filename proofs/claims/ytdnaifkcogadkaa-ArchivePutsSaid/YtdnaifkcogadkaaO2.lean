/- Walks: find, Open, Damaged. -/
import Derived.Test.YtdnaifkcogadkaaO1
namespace Go.Proofs.Ytdnaifkcogadkaa
open Go.RowKit

set_option maxRecDepth 100000 in
theorem find_any (A : Option Addr) (n c : Nat) (X : List (Ent × Nat)) (y : ByteArray) (w : World) (h : Ents w w.heap.size (.slice A n c) X) (hS : SortedX X) (hn : n ≤ 1048576) :
    Calls Try.prog 46 #[.slice A n c, .string y] w fun e w' => ∃ i b, e = .returned (.tuple #[.int .i64 i, .bool b]) ∧ FindPost X y i b ∧ Below w.heap.size w w' := by
  have H := Lib.hid (bsearch_any A n c X y w h hS hn)
  clear h hS
  go_enter Try.func46, Try.ntmps46
  go_wp2_with fail
  refine H.out.mono ?_
  rintro e w1 ⟨i, b, rfl, hp, hb⟩
  have HP := Lib.hid hp
  clear hp
  go_wp2_with fail
  go_ret2
  exact ⟨_, _, rfl, HP.out, hb⟩

/-- What Open answers. -/
def openPost (s nm d : ByteArray) (n : Int) : Prop :=
  if dirE (bytesN s) ≠ 0 then d = ⟨#[]⟩ ∧ n = dirE (bytesN s)
  else (∃ x ∈ dirX (bytesN s), x.1.name = nm ∧ datPost s x d n) ∨ ((∀ x ∈ dirX (bytesN s), x.1.name ≠ nm) ∧ d = ⟨#[]⟩ ∧ n = 8)

set_option maxRecDepth 100000 in
set_option maxHeartbeats 2000000 in
theorem open_any (s nm : ByteArray) (w : World) (hs : s.size ≤ 1048576000) :
    Calls Try.prog 28 #[.string s, .string nm] w fun e w' => ∃ (d : ByteArray) (n : Int), e = .returned (.tuple #[.string d, .int .i64 n]) ∧ openPost s nm d n ∧ Below w.heap.size w w' := by
  have hlen := Lib.hid (bytesN_length s)
  by_cases he : dirE (bytesN s) = 0
  case neg =>
    obtain ⟨z, hz⟩ : ∃ z, z = dirE (bytesN s) := ⟨_, rfl⟩
    have hz0 : z ≠ 0 := by rw [hz]; exact he
    have hzb : (z == 0) = false := by simpa using hz0
    have hzn : (z != 0) = true := by simpa using hz0
    have HD : Hid (openPost s nm ⟨#[]⟩ z) := Lib.hid (by unfold openPost; rw [if_pos he]; exact ⟨rfl, hz⟩)
    have HZ := Lib.hid hz
    clear hz he
    go_enter Try.func28, Try.ntmps28
    go_wp2_with fail
    refine (directory_any s w hs).mono ?_
    rintro e w1 ⟨v, n, rfl, ⟨hn, _, _⟩, hb1⟩
    rw [← HZ.out] at hn
    subst hn
    go_wp2_with fail
    go_ret2
    exact ⟨_, _, rfl, HD.out, hb1⟩
  have HE := Lib.hid he
  have HL := Lib.hid (dirX_each (bytesN s))
  have hXl := dirX_len (bytesN s)
  have HS := Lib.hid (dirX_sorted (bytesN s))
  clear he
  go_enter Try.func28, Try.ntmps28
  go_wp2_with fail
  refine (directory_any s w hs).mono ?_
  rintro e w1 ⟨v, n, rfl, ⟨hn, _, hents⟩, hb1⟩
  rw [HE.out] at hn
  subst hn
  obtain ⟨X, hX⟩ : ∃ X, X = dirX (bytesN s) := ⟨_, rfl⟩
  rw [← hX] at HL HS hents hXl
  have HX := Lib.hid hX
  clear hX
  obtain ⟨A, c, rfl, hlc, hcm, _⟩ := id hents
  unfold maxLen at hcm
  obtain ⟨m, hm⟩ : ∃ m, m = X.length := ⟨_, rfl⟩
  rw [← hm] at hents hlc hXl ⊢
  have HM := Lib.hid hm
  have HEN := Lib.hid hents
  clear hents hm
  go_wp2_with fail
  refine (find_any A m c X nm w1 HEN.out HS.out (by omega)).mono ?_
  rintro e w2 ⟨i, b, rfl, hf, hk2⟩
  have HEN2 := Lib.hid (Sl.over HEN.out hk2)
  have hb2 := hb1.trans (hk2.mono hb1.size)
  clear hk2 hb1 HEN
  rcases hf with ⟨rfl, k, x, rfl, hx, hxn⟩ | ⟨rfl, hno⟩
  · have hkm : k < m := by rw [HM.out]; exact (List.getElem?_eq_some_iff.1 hx).1
    have hkmI : (k : Int) < (m : Int) := by omega
    have hmem := List.mem_of_getElem? hx
    obtain ⟨b, o, hA, hbB, c0, c1, c2, c3⟩ := Ents.at HEN2.out k x hx
    subst hA
    obtain ⟨e1, e2, e3⟩ := HL.out x hmem
    rw [hlen.out] at e1
    have HO : Hid (∀ d n, datPost s x d n → openPost s nm d n) := Lib.hid (fun d n h => by unfold openPost; rw [if_neg (by rw [HE.out]; decide)]; exact .inl ⟨x, by rw [← HX.out]; exact hmem, hxn, h⟩)
    clear hx hxn hmem e3
    obtain ⟨⟨xn, sz, sm⟩, off⟩ := x
    simp only at c0 c1 c2 c3 e1 e2
    go_wp2_with fail
    refine (data_any s xn off sz sm _ hs e1).mono ?_
    rintro e w3 ⟨d, n, rfl, hdp, hb3⟩
    have HD := Lib.hid (HO.out d n hdp)
    clear hdp
    go_wp2_with fail
    go_ret2
    exact ⟨_, _, rfl, HD.out, hb2.trans (hb3.mono hb2.size)⟩
  · have HO : Hid (openPost s nm ⟨#[]⟩ 8) := Lib.hid (by unfold openPost; rw [if_neg (by rw [HE.out]; decide)]; exact .inr ⟨by rw [← HX.out]; exact hno, rfl, rfl⟩)
    clear hno
    go_wp2_with fail
    go_ret2
    exact ⟨_, _, rfl, HO.out, hb2⟩

def encS (x : ByteArray) : List Value := [.string x]
theorem encS_length (x : ByteArray) : (encS x).length = 1 := rfl
theorem encS_each (x : ByteArray) : ∀ u ∈ encS x, u.oneCell' = true := fun u hu => by
  simp only [encS, List.mem_singleton] at hu
  subst hu; rfl
abbrev OwnS := Own encS 1 9
theorem info9 : (Try.prog.info? 9).map (fun i => (i.zero, i.size, i.bytes)) = some (some (.string ⟨#[]⟩), 1, 16) := by kernel_rfl
/-- The names of the entries whose data are damaged. -/
def badN (l : List Nat) (X : List (Ent × Nat)) : List ByteArray := (X.filter fun x => !datOk l x).map fun x => x.1.name
def DmgPost (B : Nat) (l : List Nat) (v : Value) (n : Int) (w : World) : Prop := n = dirE l ∧ OwnS w B v (badN l (dirX l))

set_option maxRecDepth 100000 in
set_option maxHeartbeats 4000000 in
theorem damaged_any (s : ByteArray) (w : World) (hs : s.size ≤ 1048576000) :
    Calls Try.prog 29 #[.string s] w fun e w' => ∃ v n, e = .returned (.tuple #[v, .int .i64 n]) ∧ DmgPost w.heap.size (bytesN s) v n w' ∧ Below w.heap.size w w' := by
  obtain ⟨i0, hi, hz0, hz1, hz2⟩ := info_parts info9
  have hlen := Lib.hid (bytesN_length s)
  by_cases he : dirE (bytesN s) = 0
  case neg =>
    obtain ⟨z, hz⟩ : ∃ z, z = dirE (bytesN s) := ⟨_, rfl⟩
    have hz0 : z ≠ 0 := by rw [hz]; exact he
    have hzb : (z == 0) = false := by simpa using hz0
    have hzn : (z != 0) = true := by simpa using hz0
    have HX : Hid (dirX (bytesN s) = []) := Lib.hid (dirX_bad he)
    have HZ := Lib.hid hz
    clear hz he
    go_enter Try.func29, Try.ntmps29
    go_wp2_with fail
    refine (directory_any s w hs).mono ?_
    rintro e w1 ⟨v, n, rfl, ⟨hn, _, _⟩, hb1⟩
    rw [← HZ.out] at hn
    subst hn
    go_wp2_with fail
    go_ret2
    exact ⟨_, _, rfl, ⟨HZ.out, by rw [HX.out]; exact Own.nil _ _⟩, hb1⟩
  have HE := Lib.hid he
  have HL := Lib.hid (dirX_each (bytesN s))
  have hXl := dirX_len (bytesN s)
  clear he
  go_enter Try.func29, Try.ntmps29
  go_wp2_with fail
  refine (directory_any s w hs).mono ?_
  rintro e w1 ⟨v, n, rfl, ⟨hn, _, hents⟩, hb1⟩
  rw [HE.out] at hn
  subst hn
  obtain ⟨X, hX⟩ : ∃ X, X = dirX (bytesN s) := ⟨_, rfl⟩
  rw [← hX] at HL hents hXl
  have HX := Lib.hid hX
  clear hX
  obtain ⟨A, c, rfl, hlc, hcm, _⟩ := id hents
  unfold maxLen at hcm
  have HEN := Lib.hid hents
  obtain ⟨m, hm⟩ : ∃ m, m = X.length := ⟨_, rfl⟩
  rw [← hm] at HEN hlc hXl ⊢
  have HM := Lib.hid hm
  clear hents hm
  go_wp2_with fail
  go_loopw [6, 21] (fun ov iv wr => ∃ k : Nat, k ≤ m ∧ iv = .int .i64 k ∧ OwnS wr w1.heap.size ov (badN (bytesN s) (X.take k)) ∧ Below w1.heap.size w1 wr) (fun _ iv _ => m - (intOf iv).toNat)
  case atStart => exact ⟨0, Nat.zero_le _, rfl, Own.nil _ _, Below.refl _ _⟩
  case round =>
    obtain ⟨k, hk, rfl, hown, hb⟩ := hrel
    have hbz := hb.size
    by_cases hlt : k < m
    · obtain ⟨x, hx⟩ : ∃ x, X[k]? = some x := ⟨X[k]'(by rw [← HM.out]; exact hlt), by simp⟩
      obtain ⟨b, o, hA, hbB, c0, c1, c2, c3⟩ := Ents.at (Sl.over HEN.out hb) k x hx
      subst hA
      have HT : Hid (X.take (k + 1) = X.take k ++ [x]) := Lib.hid (by rw [List.take_add_one, hx]; rfl)
      obtain ⟨e1, e2, e3⟩ := HL.out x (List.mem_of_getElem? hx)
      rw [hlen.out] at e1
      clear hx e3
      obtain ⟨⟨nm, sz, sm⟩, off⟩ := x
      simp only at c0 c1 c2 c3 e1 e2
      have bx : BoxE (wr.alloc (.cells #[.string nm, .int .i64 off, .int .i64 sz, .int .u32 sm] 43)) wr.heap.size ⟨nm, sz, sm⟩ off := heap_alloc_new _ _
      have bw : Below w1.heap.size w1 (wr.alloc (.cells #[.string nm, .int .i64 off, .int .i64 sz, .int .u32 sm] 43)) := hb.alloc hbz _
      have HO := Lib.hid (Own.alloc hown (.cells #[.string nm, .int .i64 off, .int .i64 sz, .int .u32 sm] 43))
      clear hown
      obtain ⟨q0, q1, q2, q3, _⟩ := BoxE.cs bx
      have BX := Lib.hid bx
      clear bx
      by_cases hok : datOk (bytesN s) ((⟨nm, sz, sm⟩ : Ent), off) = true
      · have HOK := Lib.hid hok
        have HPn : Hid (badN (bytesN s) (X.take (k + 1)) = badN (bytesN s) (X.take k)) := Lib.hid (by rw [HT.out]; unfold badN; rw [List.filter_append]; simp [hok])
        clear hok
        go_wp2_with fail
        refine (data_any s nm off sz sm _ hs e1).mono ?_
        rintro e w2 ⟨d, n, rfl, hdp, hb2⟩
        unfold datPost at hdp
        rw [if_pos HOK.out] at hdp
        obtain ⟨_, rfl⟩ := hdp
        have hown2 := HO.out.over hb2
        rw [← HPn.out] at hown2
        have bw2 := bw.trans (hb2.mono bw.size)
        go_wp2_with fail
        go_roundw
        case rel => exact ⟨k + 1, by omega, by go_num, hown2, bw2⟩
        case measure => simp [intOf]; omega
      · have hok0 : datOk (bytesN s) ((⟨nm, sz, sm⟩ : Ent), off) = false := by simpa using hok
        have HOK := Lib.hid hok0
        have HPn : Hid (badN (bytesN s) (X.take (k + 1)) = badN (bytesN s) (X.take k) ++ [nm]) := Lib.hid (by rw [HT.out]; unfold badN; rw [List.filter_append]; simp [hok0])
        have hkl : (badN (bytesN s) (X.take k)).length ≤ 64 := by
          unfold badN
          rw [List.length_map]
          have := List.length_filter_le (fun x => !datOk (bytesN s) x) (X.take k)
          rw [List.length_take] at this
          omega
        clear hok hok0
        go_wp2_with fail
        refine (data_any s nm off sz sm _ hs e1).mono ?_
        rintro e w2 ⟨d, n, rfl, hdp, hb2⟩
        unfold datPost at hdp
        rw [if_neg (by rw [HOK.out]; decide)] at hdp
        obtain ⟨rfl, rfl⟩ := hdp
        have q5 := cell_over q0 hb2
        have hown2 := HO.out.over hb2
        have bw2 := bw.trans (hb2.mono bw.size)
        have hbz2 := bw2.size
        obtain ⟨P, hP⟩ : ∃ P, P = badN (bytesN s) (X.take k) := ⟨_, rfl⟩
        rw [← hP] at hkl hown2 HPn
        clear hP q1 q2 q3
        go_wp2_with (at_builtin; refine wpList_push _ rfl _ _ 52 rfl w1.heap.size 9 i0 _ 1 16 Try.underlying52 hi hz0 hz1 hz2 rfl (by decide) encS_length encS_each _ P rfl (Own.alloc hown2 _) w2.heap.size 1 nm rfl (cells_new w2 (encS nm) 9) (by omega) (by omega) (by simp; omega) ?_; intro v3 w3 hown3 hg3)
        have hb3 : Below w1.heap.size w1 w3 := (bw2.alloc hbz2 (.cells #[.string nm] 9)).trans (Own.belowG (Own.alloc hown2 (.cells #[.string nm] 9)) (by simp; omega) hg3)
        go_roundw
        case rel => exact ⟨k + 1, by omega, by go_num, by rw [HPn.out]; exact hown3, hb3⟩
        case measure => simp [intOf]; omega
    · have hkm : X.take k = X := List.take_of_length_le (by rw [← HM.out]; omega)
      rw [hkm] at hown
      have HO : Hid (OwnS wr w.heap.size _ (badN (bytesN s) (dirX (bytesN s)))) := Lib.hid (by rw [← HX.out]; exact Own.lower hown hb1.size)
      clear hkm hown
      go_wp2_with fail
      go_ret2
      exact ⟨_, _, rfl, ⟨HE.out.symm, HO.out⟩, hb1.trans (hb.mono hb1.size)⟩
end Go.Proofs.Ytdnaifkcogadkaa
