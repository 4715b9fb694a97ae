/- Walks: the check of options and strings. -/
import Derived.Test.YtknnjnginmkblaaDoorW11
namespace Go.Proofs.YtknnjnginmkblaaDoor
open Go.RowKit

def encS (x : ByteArray) : List Value := [.string x]
def chkS : List ByteArray → Int
  | [] => 0
  | s :: r => if 4096 < s.size then 10 else if (pts (bytesN s)).isSome = true then chkS r else 12
theorem chkS_drop {l : List ByteArray} {k : Nat} {s : ByteArray} (h : l[k]? = some s) : chkS (l.drop k) = if 4096 < s.size then 10 else if (pts (bytesN s)).isSome = true then chkS (l.drop (k + 1)) else 12 := by
  obtain ⟨h1, h2⟩ := List.getElem?_eq_some_iff.1 h
  rw [List.drop_eq_getElem_cons h1, h2]
  rfl

set_option maxRecDepth 100000 in
set_option maxHeartbeats 2000000 in
theorem checkS_lib (o : Opt) (v : Value) (l : List ByteArray) (w : World) (hv : Sl encS 1 w w.heap.size v l) :
    Calls Tryd.prog 34 #[optV o, v] w fun e w' => e = .returned (.int .i64 (if chkO o.strength = 0 then chkS l else chkO o.strength)) ∧ Below w.heap.size w w' := by
  obtain ⟨st, num, ign, up⟩ := o
  have hchk := check_lib ⟨st, num, ign, up⟩
  obtain ⟨A, cap, rfl, hc1, hc2, hcells⟩ := hv
  have HC := Lib.hid hcells
  clear hcells
  show Calls Tryd.prog 34 #[.agg #[.int .i64 st, .bool num, .bool ign, .bool up], .slice A l.length cap] w fun e w' => e = .returned (.int .i64 (if chkO st = 0 then chkS l else chkO st)) ∧ Below w.heap.size w w'
  change ∀ w, Calls Tryd.prog 26 #[.agg #[.int .i64 st, .bool num, .bool ign, .bool up]] w fun e w' => e = .returned (.int .i64 (chkO st)) ∧ Below w.heap.size w w' at hchk
  obtain ⟨ck, hck⟩ : ∃ ck, ck = chkO st := ⟨_, rfl⟩
  rw [← hck] at hchk ⊢
  clear hck
  obtain ⟨X, hX⟩ : ∃ X, X = (if ck = 0 then chkS l else ck) := ⟨_, rfl⟩
  rw [← hX]
  have HK := Lib.hid hchk
  clear hchk
  have hml : (l.length : Int) ≤ 9223372036854775807 := by unfold maxLen at hc2; omega
  go_enter Tryd.func34, Tryd.ntmps34
  go_wp2_with fail
  refine (HK.out _).mono ?_
  rintro e w1 ⟨rfl, b1⟩
  have bb : Below w.heap.size w w1 := ((Below.refl w.heap.size w).alloc (Nat.le_refl _) _).trans (b1.mono (by simp))
  clear b1
  by_cases h0 : ck = 0
  · subst h0
    have HV : Hid (X = chkS (l.drop 0)) := Lib.hid (by rw [hX, if_pos rfl]; rfl)
    clear hX
    go_wp2_with fail
    go_loop [15] (fun kv => ∃ k : Nat, k ≤ l.length ∧ kv = .int .i64 k ∧ Hid (X = chkS (l.drop k))) (fun kv => l.length - (intOf kv).toNat)
    case atStart => exact ⟨0, by omega, rfl, HV⟩
    case round =>
      obtain ⟨k, hk, rfl, HR⟩ := hrel
      clear HV
      by_cases hlt : k < l.length
      · obtain ⟨b, of, rfl, hb, hcc⟩ := HC.out (by omega)
        obtain ⟨s, hs⟩ : ∃ s, l[k]? = some s := ⟨l[k], List.getElem?_eq_getElem hlt⟩
        have cell : w1.cell? ⟨b, of + k, none⟩ = some (.string s) := by
          rw [bb.cell hb]
          have := hcc k s hs 0 (.string s) rfl
          rwa [Nat.mul_one, Nat.add_zero] at this
        have HS := Lib.hid (chkS_drop hs)
        have e1 : IntKind.i64.wrap ((k : Int) + 1) = (k : Int) + 1 := IntWalk.i64_in _ (by omega)
        clear hs hcc hb
        by_cases hsz : 4096 < s.size
        · have HF : Hid (X = 10) := Lib.hid (by rw [HR.out, HS.out, if_pos hsz])
          have d1 : decide (4096 < (s.size : Int)) = true := by simp; omega
          clear HR HS
          go_wp2_with fail
          go_ret
          exact ⟨ret_int HF.out.symm, bb⟩
        · have d1 : decide (4096 < (s.size : Int)) = false := by simp; omega
          have HL : Hid (s.size ≤ 1048576000) := Lib.hid (by omega)
          have HS2 : Hid (chkS (l.drop k) = if (pts (bytesN s)).isSome = true then chkS (l.drop (k + 1)) else 12) := Lib.hid (by rw [HS.out, if_neg hsz])
          clear HS
          go_wp2_with fail
          refine (valid_lib s _ HL.out).mono ?_
          rintro e w2 ⟨rfl, rfl⟩
          cases hp : (pts (bytesN s)).isSome with
          | true =>
            have HF : Hid (X = chkS (l.drop (k + 1))) := Lib.hid (by rw [HR.out, HS2.out, hp, if_pos rfl])
            clear hp HR HS2
            go_wp2_with fail
            go_round
            case rel => exact ⟨k + 1, by omega, by go_num, HF⟩
            case measure => simp [intOf]; omega
          | false =>
            have HF : Hid (X = 12) := Lib.hid (by rw [HR.out, HS2.out, hp]; rfl)
            clear hp HR HS2
            go_wp2_with fail
            go_ret
            exact ⟨ret_int HF.out.symm, bb⟩
      · have HF : Hid (X = 0) := Lib.hid (by rw [HR.out, List.drop_eq_nil_of_le (by omega)]; rfl)
        clear HR
        go_wp2_with fail
        go_ret
        exact ⟨ret_int HF.out.symm, bb⟩
  · have HV : Hid (X = ck) := Lib.hid (by rw [hX, if_neg h0])
    clear hX
    have n0 : ((ck : Int) != 0) = true := by rw [bne_iff_ne]; exact h0
    go_wp2_with fail
    go_ret
    exact ⟨ret_int HV.out.symm, bb⟩
end Go.Proofs.YtknnjnginmkblaaDoor
