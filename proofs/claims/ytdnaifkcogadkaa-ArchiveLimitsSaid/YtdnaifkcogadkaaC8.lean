/- Walk: Encode, where a part is wrong. -/
import Derived.Test.YtdnaifkcogadkaaC7
namespace Go.Proofs.Ytdnaifkcogadkaa
open Go.RowKit

theorem zero4 (w : World) : (zeroValue 4).run Try.prog w = .ok (.bool false) w := by kernel_rfl
theorem chkAll_cons (p : Prt) (r : List Prt) (S : List ByteArray) : chkAll (p :: r) S = if chkP p ≠ 0 then chkP p else if seenB S p.1 = true then 7 else chkAll r (p.1 :: S) := rfl
/-- The sizes with which Encode is called. -/
def Small (l : List Prt) : Prop := l.length ≤ 1048576 ∧ ∀ p ∈ l, p.1.size ≤ 1048576 ∧ p.2.size ≤ 4194304

set_option maxRecDepth 100000 in
set_option maxHeartbeats 4000000 in
theorem enc_err (v : Value) (l : List Prt) (w : World) (h : Parts w w.heap.size v l) (hS : Small l) (he : errE l ≠ 0) :
    Calls Try.prog 15 #[v] w fun e w' => e = .returned (.tuple #[.string ⟨#[]⟩, .int .i64 (errE l)]) ∧ Below w.heap.size w w' := by
  obtain ⟨A, c, rfl, hlc, hc, HP⟩ := h.part
  have HP := Lib.hid HP
  have HS := Lib.hid hS
  have hll := hS.1
  clear h hS
  by_cases h64 : 64 < l.length
  · have HV : Hid (errE l = 9) := Lib.hid (by unfold errE; rw [if_pos h64])
    clear he
    go_enter Try.func15, Try.ntmps15
    go_wp2_with fail
    go_ret2
    exact ⟨by rw [HV.out]; rfl, Below.refl _ _⟩
  · have HV : Hid (errE l = chkAll (l.drop 0) []) := Lib.hid (by unfold errE; rw [if_neg h64]; rfl)
    have HE := Lib.hid he
    clear he
    have hmm := @run_makeMap Try.prog
    go_enter Try.func15, Try.ntmps15
    go_wp2_with fail
    have hs0 := SeenAt.new w
    have hb0 : Below w.heap.size w (w.alloc (.map #[] 0)) := (Below.refl _ w).alloc (Nat.le_refl _) _
    go_loopw [20] (fun iv wr => ∃ (k : Nat) (S : List ByteArray), k ≤ l.length ∧ iv = .int .i64 k ∧ Hid (errE l = chkAll (l.drop k) S) ∧ SeenAt wr w.heap.size S ∧ Below w.heap.size w wr) (fun iv _ => l.length - (intOf iv).toNat)
    case atStart => exact ⟨0, [], Nat.zero_le _, rfl, HV, hs0, hb0⟩
    case round =>
      obtain ⟨k, S, hk, rfl, HK, hseen, hb⟩ := hrel
      have hbz := hb.size
      by_cases hlt : k < l.length
      · obtain ⟨b, o, rfl, hbB, g1, g2⟩ := (HP.out.below hb) k hlt
        have HD : Hid (errE l = if chkP l[k] ≠ 0 then chkP l[k] else if seenB S l[k].1 = true then 7 else chkAll (l.drop (k + 1)) (l[k].1 :: S)) := Lib.hid (by rw [HK.out, List.drop_eq_getElem_cons hlt, chkAll_cons])
        obtain ⟨hn1, hn2⟩ := HS.out.2 l[k] (List.getElem_mem _)
        obtain ⟨x, hx⟩ : ∃ x, x = l[k] := ⟨_, rfl⟩
        rw [← hx] at g1 g2 HD hn1 hn2
        clear hx
        obtain ⟨x0, x1⟩ := x
        simp only at g1 g2 hn1 hn2
        have hbW : b < wr.heap.size := by omega
        have bP : BoxP (wr.alloc (.cells #[.string x0, .string x1] 38)) wr.heap.size x0 x1 := heap_alloc_new _ _
        have hbP : Below w.heap.size w (wr.alloc (.cells #[.string x0, .string x1] 38)) := hb.alloc hbz _
        have HSN := Lib.hid (hseen.below ((Below.refl _ wr).alloc (Nat.le_refl _) (.cells #[.string x0, .string x1] 38)))
        have HCK := Lib.hid (check_any x0 x1 (wr.alloc (.cells #[.string x0, .string x1] 38)) (by omega) (by omega))
        clear hseen
        by_cases hck : chkP (x0, x1) = 0
        · by_cases hsn : x0 ∈ S
          · have HV2 : Hid (errE l = 7) := Lib.hid (by rw [HD.out, if_neg (by simpa using hck), if_pos ((seenB_iff S x0).2 hsn)])
            have HC0 := Lib.hid hck
            clear hck
            go_wp2_with fail
            refine HCK.out.mono ?_
            rw [HC0.out]
            rintro e w1 ⟨rfl, hk1⟩
            have hs1 := HSN.out.below hk1
            have c0 := (bP.over hk1).c0
            have hb1 := hbP.trans (hk1.mono hbP.size)
            clear hk1 bP hbP
            go_wp2_with (at_lookup; refine wpList_seen _ rfl _ _ 62 rfl 9 4 Try.underlying62 Try.underlying9 (zero4 _) w.heap.size S x0 rfl hs1 rfl ?_)
            go_ret2
            exact ⟨by rw [HV2.out]; rfl, hb1⟩
          · have HN : Hid (errE l = chkAll (l.drop (k + 1)) (x0 :: S)) := Lib.hid (by rw [HD.out, if_neg (by simpa using hck), if_neg (fun hh => hsn ((seenB_iff S x0).1 hh))])
            have HC0 := Lib.hid hck
            clear hck
            go_wp2_with fail
            refine HCK.out.mono ?_
            rw [HC0.out]
            rintro e w1 ⟨rfl, hk1⟩
            have hs1 := HSN.out.below hk1
            have c0 := (bP.over hk1).c0
            have hb1 := hbP.trans (hk1.mono hbP.size)
            clear hk1 bP hbP
            go_wp2_with (first
              | (at_lookup; refine wpList_seen _ rfl _ _ 62 rfl 9 4 Try.underlying62 Try.underlying9 (zero4 _) w.heap.size S x0 rfl hs1 rfl ?_)
              | (at_mapUpdate; refine wpList_see _ rfl _ _ _ 62 rfl 9 4 Try.underlying62 Try.underlying9 w.heap.size S x0 rfl hs1 rfl rfl hsn ?_; intro w2 hs2 hg2))
            go_roundw
            case rel => exact ⟨k + 1, x0 :: S, by omega, by go_num, HN, hs2, hb1.trans ((Below.refl _ w1).grown hg2 hb1.size (fun j e => by cases e; exact Nat.le_refl _))⟩
            case measure => simp [intOf]; omega
        · have HV2 : Hid (errE l = chkP (x0, x1)) := Lib.hid (by rw [HD.out, if_pos (by simpa using hck)])
          have hne : (chkP (x0, x1) != 0) = true := by simpa using hck
          clear hck
          obtain ⟨z, hz⟩ : ∃ z, z = chkP (x0, x1) := ⟨_, rfl⟩
          rw [← hz] at HV2 hne HCK
          clear hz
          go_wp2_with fail
          refine HCK.out.mono ?_
          rintro e w1 ⟨rfl, hk1⟩
          have hb1 := hbP.trans (hk1.mono hbP.size)
          go_wp2_with fail
          go_ret2
          exact ⟨by rw [HV2.out]; rfl, hb1⟩
      · exact absurd (by rw [HK.out, List.drop_of_length_le (by omega)]; rfl) HE.out
end Go.Proofs.Ytdnaifkcogadkaa
