/- Walks: Remove; the law's without. -/
import Derived.Test.YtdnaifkcogadkaaK2
import Derived.Test.YtdnaifkcogadkaaReturns
namespace Go.Proofs.Ytdnaifkcogadkaa
open Go.RowKit

def restP (nm : ByteArray) (l : List Prt) : List Prt := l.filter fun x => !prN nm x
theorem restP_len (nm : ByteArray) (l : List Prt) : (restP nm l).length ≤ l.length := List.length_filter_le _ _
theorem restP_same (nm : ByteArray) (l : List Prt) : (restP nm l).length = l.length ↔ l.any (prN nm) = false := by
  unfold restP
  rw [List.length_filter_eq_length_iff, List.any_eq_false]
  constructor
  · intro h x hx; simpa using h x hx
  · intro h x hx; simpa using h x hx
theorem decP_small (s : ByteArray) : Small (decP (bytesN s)) := by
  by_cases h : decE (bytesN s) = 0
  · rw [decP_ok h]
    refine ⟨by rw [List.length_map]; have := dirX_len (bytesN s); omega, fun p hp => ?_⟩
    obtain ⟨x, hx, rfl⟩ := List.mem_map.1 hp
    obtain ⟨h1, h2, h3⟩ := dirX_each (bytesN s) x hx
    have h4 := (nameL_len h3).2
    rw [bytesN_length] at h4
    refine ⟨by show x.1.name.size ≤ _; omega, ?_⟩
    show (ofN (datOf (bytesN s) x)).size ≤ _
    rw [ofN_size]
    unfold datOf
    rw [List.length_take]
    omega
  · rw [decP_bad h]
    exact ⟨by simp, fun p hp => by simp at hp⟩
theorem restP_small {nm : ByteArray} {l : List Prt} (h : Small l) : Small (restP nm l) := ⟨Nat.le_trans (restP_len nm l) h.1, fun p hp => h.2 p (List.mem_filter.1 hp).1⟩

/-- What Remove answers. -/
def remPost (s nm t : ByteArray) (n : Int) : Prop :=
  if decE (bytesN s) ≠ 0 then t = ⟨#[]⟩ ∧ n = decE (bytesN s) else if (decP (bytesN s)).any (prN nm) = false then t = ⟨#[]⟩ ∧ n = 8 else encPost (restP nm (decP (bytesN s))) t n

set_option maxRecDepth 100000 in
set_option maxHeartbeats 2000000 in
theorem remove_any (s nm : ByteArray) (w : World) (hs : s.size ≤ 1048576000) :
    Calls Try.prog 30 #[.string s, .string nm] w fun e w' => ∃ (t : ByteArray) (n : Int), e = .returned (.tuple #[.string t, .int .i64 n]) ∧ remPost s nm t n ∧ Below w.heap.size w w' := by
  have hB0 : (w.alloc (.cells #[.string nm] 9)).cell? ⟨w.heap.size, 0, none⟩ = some (.string nm) := blk_cell (heap_alloc_new w _) 0
  have hb0 := (Below.refl w.heap.size w).alloc (Nat.le_refl _) (.cells #[.string nm] 9)
  go_enter Try.func30, Try.ntmps30
  go_wp2_with fail
  refine (decode_any s _ hs).mono ?_
  rintro e w1 ⟨v, n, rfl, ⟨hn, hown⟩, hk1⟩
  have hB1 := cell_over hB0 hk1
  have hb1 := hb0.trans (hk1.mono hb0.size)
  have hz1 : w.heap.size + 1 ≤ w1.heap.size := by have := hk1.size; simpa using this
  have hz0 : (w.alloc (.cells #[.string nm] 9)).heap.size = w.heap.size + 1 := by simp
  rw [hz0] at hown
  clear hB0 hk1 hb0 hz0
  by_cases he : decE (bytesN s) = 0
  case neg =>
    have hz0 : n ≠ 0 := by rw [hn]; exact he
    have hzb : (n == 0) = false := by simpa using hz0
    have hzn : (n != 0) = true := by simpa using hz0
    have HR : Hid (remPost s nm ⟨#[]⟩ n) := Lib.hid (by unfold remPost; rw [if_pos he]; exact ⟨rfl, hn⟩)
    clear hn he hown hz0
    go_wp2_with fail
    go_ret2
    exact ⟨_, _, rfl, HR.out, hb1⟩
  rw [he] at hn
  subst hn
  obtain ⟨A, c, rfl, hlc, hcm⟩ := Own.shape hown
  have hSm := Lib.hid (decP_small s)
  have HD : Hid (decP (bytesN s) = decP (bytesN s)) := Lib.hid rfl
  obtain ⟨P, hP⟩ : ∃ P, P = decP (bytesN s) := ⟨_, rfl⟩
  have HP := Lib.hid hP
  rw [← hP] at hown hSm hlc ⊢
  have HE := Lib.hid he
  clear hP he HD hlc hcm
  have hPl : P.length ≤ 1048576 := hSm.out.1
  have HDel := Lib.hid (delete48 (.slice A P.length c) (w.heap.size + 1) w.heap.size P nm w1 hown hz1 hPl (Lib.hid (fun W x hb => clo48 x nm w.heap.size W ((hb.cell (p := ⟨w.heap.size, 0, none⟩) (Nat.lt_succ_self _)).trans hB1))))
  clear hown
  go_wp2_with fail
  refine HDel.out.mono ?_
  rintro e w2 ⟨v2, rfl, hown2, hk2⟩
  have hb2 := hb1.trans ((hk2.mono (Nat.le_succ _)).mono (Nat.le_refl _))
  have hR : Hid (OwnP w2 (w.heap.size + 1) v2 (restP nm P)) := Lib.hid hown2
  obtain ⟨A2, c2, rfl, _, _⟩ := Own.shape hR.out
  have hSr := Lib.hid (restP_small (nm := nm) hSm.out)
  clear hown2 HDel hk2
  by_cases ha : P.any (prN nm) = false
  · have hlen := (restP_same nm P).2 ha
    have HR : Hid (remPost s nm ⟨#[]⟩ 8) := Lib.hid (by unfold remPost; rw [if_neg (by rw [HE.out]; decide), if_pos (by rw [← HP.out]; exact ha)]; exact ⟨rfl, rfl⟩)
    have hq : (((restP nm P).length : Int) == (P.length : Int)) = true := by rw [hlen]; simp
    clear ha hlen
    go_wp2_with fail
    go_ret2
    exact ⟨_, _, rfl, HR.out, hb2⟩
  · have hlen : (restP nm P).length ≠ P.length := fun h => ha ((restP_same nm P).1 h)
    have HR : ∀ t n, encPost (restP nm P) t n → remPost s nm t n := fun t n h => by unfold remPost; rw [if_neg (by rw [HE.out]; decide), if_neg (by rw [← HP.out]; exact ha), ← HP.out]; exact h
    have HR := Lib.hid HR
    have hq : (((restP nm P).length : Int) == (P.length : Int)) = false := by
      rw [beq_eq_false_iff_ne]
      omega
    clear ha hlen
    go_wp2_with fail
    refine (encode_any _ (restP nm P) w2 (hR.out.sl encP_length) hSr.out).mono ?_
    rintro e w3 ⟨t, n, rfl, hp, hk3⟩
    have HP3 := Lib.hid hp
    clear hp
    go_wp2_with fail
    go_ret2
    exact ⟨_, _, rfl, HR.out _ _ HP3.out, hb2.trans (hk3.mono hb2.size)⟩

set_option maxRecDepth 100000 in
set_option maxHeartbeats 2000000 in
theorem without_any (v : Value) (l : List Prt) (nm : ByteArray) (w : World) (h : Parts w w.heap.size v l) (hll : l.length ≤ 1048576) :
    Calls Try.prog 31 #[v, .string nm] w fun e w' => ∃ v', e = .returned (.tuple #[v', .bool (l.any (prN nm))]) ∧ OwnP w' w.heap.size v' (restP nm l) ∧ Below w.heap.size w w' := by
  obtain ⟨i0, hi, hz0, hz1, hz2⟩ := info_parts info38
  obtain ⟨A, c, rfl, hlc, hc, HPt⟩ := h.part
  have HP := Lib.hid HPt
  obtain ⟨n, hn⟩ : ∃ n, n = l.length := ⟨_, rfl⟩
  have HN := Lib.hid hn
  rw [← hn] at hlc hll ⊢
  clear h HPt hn
  go_enter Try.func31, Try.ntmps31
  go_wp2_with fail
  go_loopw [4, 5, 6] (fun ov fv iv wr => ∃ (k : Nat) (f : Bool), k ≤ n ∧ iv = .int .i64 k ∧ fv = .bool f ∧ Hid (f = (l.take k).any (prN nm)) ∧ OwnP wr w.heap.size ov (restP nm (l.take k)) ∧ Below w.heap.size w wr) (fun _ _ iv _ => n - (intOf iv).toNat)
  case atStart => exact ⟨0, false, Nat.zero_le _, rfl, rfl, Lib.hid rfl, Own.nil _ _, Below.refl _ _⟩
  case round =>
    obtain ⟨k, f, hk, rfl, rfl, HF, hown, hb⟩ := hrel
    have hbz := hb.size
    by_cases hlt : k < n
    · have hkl : k < l.length := by rw [← HN.out]; exact hlt
      obtain ⟨b, o, rfl, hbB, g1, g2⟩ := (HP.out.below hb) k hkl
      have HT : Hid (l.take (k + 1) = l.take k ++ [l[k]]) := Lib.hid (List.take_succ_eq_append_getElem hkl)
      obtain ⟨x, hx⟩ : ∃ x, x = l[k] := ⟨_, rfl⟩
      rw [← hx] at g1 g2 HT
      clear hx
      by_cases hp : prN nm x = true
      · have hq : (x.1.toList == nm.toList) = true := hp
        have HFn : Hid (true = (l.take (k + 1)).any (prN nm)) := Lib.hid (by rw [HT.out, List.any_append]; simp [hp])
        have HRn : Hid (restP nm (l.take (k + 1)) = restP nm (l.take k)) := Lib.hid (by rw [HT.out]; unfold restP; rw [List.filter_append]; simp [hp])
        rw [← HRn.out] at hown
        obtain ⟨x0, x1⟩ := x
        simp only at g1 g2 hq
        clear hp hkl
        go_wp2_with fail
        go_roundw
        case rel => exact ⟨k + 1, true, by omega, by go_num, rfl, HFn, hown, hb⟩
        case measure => simp [intOf]; omega
      · have hp' : prN nm x = false := by simpa using hp
        have hq : (x.1.toList == nm.toList) = false := hp'
        have HFn : Hid (f = (l.take (k + 1)).any (prN nm)) := Lib.hid (by rw [HT.out, List.any_append, ← HF.out]; simp [hp'])
        have HRn : Hid (restP nm (l.take (k + 1)) = restP nm (l.take k) ++ [x]) := Lib.hid (by rw [HT.out]; unfold restP; rw [List.filter_append]; simp [hp'])
        have hkr : (restP nm (l.take k)).length ≤ 1048576 := by
          have h1 := restP_len nm (l.take k)
          rw [List.length_take] at h1
          omega
        obtain ⟨P, hP⟩ : ∃ P, P = restP nm (l.take k) := ⟨_, rfl⟩
        rw [← hP] at hown HRn hkr
        clear hP
        obtain ⟨x0, x1⟩ := x
        simp only at g1 g2 hq
        clear hp hp' hkl
        go_wp2_with (at_builtin; refine wpList_push _ rfl _ _ 22 rfl w.heap.size 38 i0 _ 2 32 Try.underlying22 hi hz0 hz1 hz2 rfl (by decide) encP_length encP_eachR _ P rfl (Own.alloc hown _) wr.heap.size 1 (x0, x1) rfl (cells_new wr (encP (x0, x1)) 38) (by omega) (by omega) (by simp; omega) ?_; intro v3 w3 hown3 hg3)
        have hb3 : Below w.heap.size w w3 := (hb.alloc hbz (.cells #[.string x0, .string x1] 38)).trans (Own.belowG (Own.alloc hown (.cells #[.string x0, .string x1] 38)) (by simp; omega) hg3)
        go_roundw
        case rel => exact ⟨k + 1, f, by omega, by go_num, rfl, HFn, by rw [HRn.out]; exact hown3, hb3⟩
        case measure => simp [intOf]; omega
    · have hkl : l.take k = l := List.take_of_length_le (by rw [← HN.out]; omega)
      rw [hkl] at HF hown
      have HO := Lib.hid hown
      obtain ⟨A2, c2, rfl, _, _⟩ := Own.shape hown
      clear hkl hown
      go_wp2_with fail
      go_ret2
      exact ⟨.slice A2 (restP nm l).length c2, by rw [← HF.out]; rfl, HO.out, hb⟩
end Go.Proofs.Ytdnaifkcogadkaa
