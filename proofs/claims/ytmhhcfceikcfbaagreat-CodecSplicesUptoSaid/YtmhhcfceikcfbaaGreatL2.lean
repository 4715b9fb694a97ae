/- Walks: the law's bytes of numbers, texts, Booleans, properties. -/
import Derived.Test.YtmhhcfceikcfbaaGreatL1
import Derived.Test.YtmhhcfceikcfbaaGreatRep
import Derived.Test.YtmhhcfceikcfbaaGreatW3
import Derived.Test.YtmhhcfceikcfbaaGreatR3
import Derived.Test.YtmhhcfceikcfbaaGreatSq2
import Derived.BigQuiet
import Derived.Deep.Cut
namespace Go.Proofs.YtmhhcfceikcfbaaGreat
open Go.RowKit

theorem Rp.below {α : Type} {R : Rp α} (hR : Stb R) {w w' : World} {G : Nat → Prop} {vs : List Value} {x : α} {B : Nat} (h : R w G vs x) (hG : ∀ b, G b → b < B) (hb : Below B w w') : R w' G vs x :=
  hR _ _ _ _ _ _ (fun _ h => h) (fun b hg _ => hb.block b (hG b hg)) h
theorem addS (a b : ByteArray) (h : a.size + b.size ≤ 9223372036854775807) (w : World) : (Op.stringOp .add a b).run Tryz.prog w = .ok (.string (a ++ b)) w :=
  run_string_add_sum w a b h
theorem take_flat {α : Type} (e : α → List Nat) {l : List α} {k : Nat} {x : α} (h : l[k]? = some x) : (l.take (k + 1)).flatMap e = (l.take k).flatMap e ++ e x := by
  rw [List.take_add_one, h, List.flatMap_append]
  simp
theorem take_flat_le {α : Type} (e : α → List Nat) (l : List α) (k : Nat) : ((l.take k).flatMap e).length ≤ (l.flatMap e).length := by
  rw [← List.take_append_drop k l, List.flatMap_append, List.length_append]
  simp

set_option maxRecDepth 100000 in
set_option maxHeartbeats 4000000 in
theorem nums67 (ns : List Int) (g c : Nat) (w : World) (hc : ∀ (j : Nat) (x : Int), ns[j]? = some x → w.cell? ⟨g, j, none⟩ = some (.int .i64 x)) (hI : ∀ n ∈ ns, I64 n) (hl : ns.length ≤ 1000) :
    Calls Tryz.prog 67 #[.slice (some ⟨g, 0, none⟩) ns.length c] w (StrE w (ns.flatMap encN)) := by
  obtain ⟨n, hn⟩ : ∃ n, n = ns.length := ⟨_, rfl⟩
  have hn2 : n ≤ 1000 := by omega
  have HN := Lib.hid hn
  have HC := Lib.hid hc
  have HI := Lib.hid hI
  have HL : Hid ((ns.flatMap encN).length ≤ 10 * n) := Lib.hid (by rw [hn]; exact flatN_len ns hI)
  rw [← hn]
  clear hc hI hn hl
  go_enter Tryz.func67, Tryz.ntmps67
  go_wp2_with fail
  go_loopw [3, 4] (fun sv iv wr => ∃ i : Nat, iv = .int .i64 (i : Int) ∧ i ≤ n ∧ sv = .string (mkB ((ns.take i).flatMap encN)) ∧ Below w.heap.size w wr) (fun _ iv _ => n - (intOf iv).toNat)
  case atStart => exact ⟨0, rfl, Nat.zero_le _, rfl, Below.refl _ _⟩
  case round =>
    obtain ⟨i, rfl, hin, rfl, hb⟩ := hrel
    by_cases hlt : i < n
    · have hlt' : (i : Int) < (n : Int) := by omega
      obtain ⟨x, hx⟩ : ∃ x, ns[i]? = some x := ⟨_, List.getElem?_eq_getElem (by rw [← HN.out]; exact hlt)⟩
      have c1 := HC.out i x hx
      have c0 : wr.cell? ⟨g, i, none⟩ = some (.int .i64 x) := (hb.cell (World.block_lt_of_cell? _ _ c1)).trans c1
      have C := Lib.hid (num_lib x (HI.out x (List.mem_of_getElem? hx)) wr)
      have HT := Lib.hid (take_flat encN hx)
      have hle := take_flat_le encN ns (i + 1)
      rw [HT.out, List.length_append] at hle
      have ka := addL ((ns.take i).flatMap encN) (encN x) (by have := HL.out; omega)
      have HB := Lib.hid hb
      clear hx c1 hle hb
      go_wp2_with fail
      refine C.out.mono ?_
      rintro e w1 ⟨rfl, hb1⟩
      have HB1 := Lib.hid (HB.out.trans (hb1.mono HB.out.size))
      clear hb1 HB C
      go_wp2_with fail
      go_roundw
      case rel => exact ⟨i + 1, by go_num, by omega, by rw [HT.out], HB1.out⟩
      case measure => simp [intOf]; omega
    · have hii : i = n := by omega
      subst hii
      have hlt' : ¬ (i : Int) < (i : Int) := by omega
      have e : ns.take i = ns := List.take_of_length_le (by rw [← HN.out]; exact Nat.le_refl _)
      have HE : Hid ((ns.take i).flatMap encN = ns.flatMap encN) := Lib.hid (by rw [e])
      clear e
      go_wp2_with fail
      go_ret
      exact ⟨by rw [HE.out]; rfl, hb⟩

set_option maxRecDepth 100000 in
set_option maxHeartbeats 4000000 in
theorem txt68 (s : ByteArray) (w : World) (hs : s.size ≤ 1099511627776) : Calls Tryz.prog 68 #[.string s] w (StrE w (strE s)) := by
  have C := Lib.hid (num_lib (s.size : Int) (by unfold I64; omega) w)
  have hl := encN_len (n := (s.size : Int)) (by unfold I64; omega)
  have ka := addS (mkB (encN (s.size : Int))) s (by rw [mkB_size]; omega)
  have HE : Hid (mkB (encN (s.size : Int)) ++ s = mkB (strE s)) := Lib.hid (by unfold strE textE; rw [bytesN_length, ← mkB_app, mkB_bytesN])
  clear hl
  go_enter Tryz.func68, Tryz.ntmps68
  go_wp2_with fail
  refine C.out.mono ?_
  rintro e w1 ⟨rfl, hb1⟩
  have HB := Lib.hid hb1
  clear hb1 C
  go_wp2_with fail
  go_ret
  exact ⟨by rw [← HE.out]; rfl, HB.out⟩

set_option maxRecDepth 100000 in
set_option maxHeartbeats 4000000 in
theorem flg84 (b : Bool) (w : World) : Calls Tryz.prog 84 #[.bool b] w (StrE w (flagE b)) := by
  cases b
  · have C := Lib.hid (num_lib 0 (by unfold I64; omega) w)
    go_enter Tryz.func84, Tryz.ntmps84
    go_wp2_with fail
    refine C.out.mono ?_
    rintro e w1 ⟨rfl, hb1⟩
    have HB := Lib.hid hb1
    clear hb1 C
    go_wp2_with fail
    go_ret
    exact ⟨rfl, HB.out⟩
  · have C := Lib.hid (num_lib 1 (by unfold I64; omega) w)
    go_enter Tryz.func84, Tryz.ntmps84
    go_wp2_with fail
    refine C.out.mono ?_
    rintro e w1 ⟨rfl, hb1⟩
    have HB := Lib.hid hb1
    clear hb1 C
    go_wp2_with fail
    go_ret
    exact ⟨rfl, HB.out⟩
end Go.Proofs.YtmhhcfceikcfbaaGreat
