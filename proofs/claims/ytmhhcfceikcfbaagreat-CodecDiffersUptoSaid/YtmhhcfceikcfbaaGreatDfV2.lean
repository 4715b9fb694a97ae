/- Walks: names, code points counted. -/
import Derived.Test.YtmhhcfceikcfbaaGreatDfV1
namespace Go.Proofs.YtmhhcfceikcfbaaGreat
open Go.RowKit
def letC (c : Nat) : Bool := decide (65 ≤ c ∧ c ≤ 90 ∨ 97 ≤ c ∧ c ≤ 122)
def othC (c : Nat) : Bool := decide (48 ≤ c ∧ c ≤ 57 ∨ c = 45 ∨ c = 95)
/-- The letters of a name from the second on. -/
def nmR : List Nat → Bool
 | [] => true
 | c :: r => (letC c || othC c) && nmR r
def nmL : List Nat → Bool
 | [] => true
 | c :: r => letC c && nmR r
def nameB (s : ByteArray) : Bool := decide (1 ≤ s.size ∧ s.size ≤ 40) && nmL (bytesN s)
def nmA (i : Nat) (l : List Nat) : Bool := if i = 0 then nmL l else nmR l
theorem nmA_step {i c : Nat} {r : List Nat} : nmA i (c :: r) = ((letC c || (decide (0 < i) && othC c)) && nmA (i + 1) r) := by
 unfold nmA
 rw [if_neg (Nat.succ_ne_zero i)]
 by_cases h : i = 0
 ·subst h; simp [nmL]
 ·rw [if_neg h]
  have : 0 < i := by omega
  simp [nmR, this]
theorem or32 : ∀ c : Nat, c < 256 → bits BinOp.or IntKind.u8 (c : Int) 32 = ((c ||| 32 : Nat) : Int) := by decide +kernel
theorem or32_let : ∀ c : Nat, c < 256 → (letC c = true ↔ 97 ≤ c ||| 32 ∧ c ||| 32 ≤ 122) := by unfold letC; decide +kernel
theorem and192 : ∀ c : Nat, c < 256 → bits BinOp.and IntKind.u8 (c : Int) 192 = ((c &&& 192 : Nat) : Int) := by decide +kernel
set_option maxRecDepth 100000 in
set_option maxHeartbeats 4000000 in
theorem isName185 (s : ByteArray) (w : World) : Calls Tryz.prog 185 #[.string s] w fun e w' => e = .returned (.bool (nameB s)) ∧ Below w.heap.size w w' := by
 by_cases h0 : 1 ≤ s.size
 ·by_cases h1 : s.size ≤ 40
  ·have p0 : ¬ (s.size : Int) < 1 := by omega
   have p1 : ¬ (s.size : Int) > 40 := by omega
   have HV : Hid (nameB s = nmA 0 ((bytesN s).drop 0)) := Lib.hid (by unfold nameB nmA; simp [h0, h1])
   obtain ⟨V, hV⟩ : ∃ V, V = nameB s := ⟨_, rfl⟩
   rw [← hV] at HV ⊢
   clear hV
   go_enter Tryz.func185, Tryz.ntmps185
   go_wp2_with fail
   go_loop [17] (fun kv => ∃ k : Nat, k ≤ s.size ∧ kv = .int .i64 k ∧ Hid (V = nmA k ((bytesN s).drop k))) (fun kv => s.size - (intOf kv).toNat)
   case atStart => exact ⟨0, by omega, rfl, HV⟩
   case round =>
    obtain ⟨k, hk, rfl, HK⟩ := hrel
    clear HV
    by_cases hlt : k < s.size
    ·obtain ⟨c, hc⟩ : ∃ c, s[k].toNat = c := ⟨_, rfl⟩
     have hc2 : c < 256 := by rw [← hc]; exact s[k].toNat_lt
     have hlt' : (k : Int) < s.size := by omega
     have HS : Hid (V = ((letC c || (decide (0 < k) && othC c)) && nmA (k + 1) ((bytesN s).drop (k + 1)))) := Lib.hid (by rw [HK.out, bytesN_drop s k hlt, nmA_step, hc])
     have hor := or32 c hc2
     have HL := Lib.hid (or32_let c hc2)
     obtain ⟨x, hx⟩ : ∃ x, x = c ||| 32 := ⟨_, rfl⟩
     rw [← hx] at hor HL
     clear hx HK
     have hcl : (97 ≤ x ∧ x ≤ 122) ∨ x < 97 ∨ 122 < x := by omega
     rcases hcl with hl | hl | hl
     ·have x1 : (x : Int) ≥ 97 := by omega
      have x2 : (x : Int) ≤ 122 := by omega
      have hco : (48 ≤ c ∧ c ≤ 57) ∨ (c < 48 ∧ c ≠ 45) ∨ c = 45 ∨ (57 < c ∧ c ≠ 95) ∨ c = 95 := by omega
      rcases hco with h | h | h | h | h
      ·have r1 : (c : Int) ≥ 48 := by omega
       have r2 : (c : Int) ≤ 57 := by omega
       have HM : Hid (letC _ = true) := Lib.hid (HL.out.2 hl)
       clear HL
       go_wp2_with fail
       exact ⟨⟨k + 1, by omega, by go_num, Lib.hid (by rw [HS.out, HM.out]; simp)⟩, by simp [intOf]; omega⟩
      ·have r1 : ¬ (c : Int) ≥ 48 := by omega
       have r3 : ((c : Int) == 45) = false := by rw [beq_eq_false_iff_ne]; omega
       have r4 : ((c : Int) == 95) = false := by rw [beq_eq_false_iff_ne]; omega
       have HM : Hid (letC _ = true) := Lib.hid (HL.out.2 hl)
       clear HL
       go_wp2_with fail
       exact ⟨⟨k + 1, by omega, by go_num, Lib.hid (by rw [HS.out, HM.out]; simp)⟩, by simp [intOf]; omega⟩
      ·exact absurd (HL.out.2 hl) (by subst h; decide)
      ·have r1 : (c : Int) ≥ 48 := by omega
       have r2 : ¬ (c : Int) ≤ 57 := by omega
       have r3 : ((c : Int) == 45) = false := by rw [beq_eq_false_iff_ne]; omega
       have r4 : ((c : Int) == 95) = false := by rw [beq_eq_false_iff_ne]; omega
       have HM : Hid (letC _ = true) := Lib.hid (HL.out.2 hl)
       clear HL
       go_wp2_with fail
       exact ⟨⟨k + 1, by omega, by go_num, Lib.hid (by rw [HS.out, HM.out]; simp)⟩, by simp [intOf]; omega⟩
      ·exact absurd (HL.out.2 hl) (by subst h; decide)
     ·have x1 : ¬ (x : Int) ≥ 97 := by omega
      have hco : (48 ≤ c ∧ c ≤ 57) ∨ (c < 48 ∧ c ≠ 45) ∨ c = 45 ∨ (57 < c ∧ c ≠ 95) ∨ c = 95 := by omega
      rcases hco with h | h | h | h | h
      ·have r1 : (c : Int) ≥ 48 := by omega
       have r2 : (c : Int) ≤ 57 := by omega
       have HO : Hid (othC c = true) := Lib.hid (by unfold othC; simp <;> omega)
       have HM := Lib.hid (show letC c = false from by rw [← Bool.not_eq_true]; intro e; have := HL.out.1 e; omega)
       clear HL
       by_cases hk0 : k = 0
       ·subst hk0
        go_wp2_with fail
        go_ret
        exact ⟨by rw [HS.out, HM.out]; simp <;> rfl, Below.refl _ _⟩
       ·have hk1 : ((k : Int) == 0) = false := by rw [beq_eq_false_iff_ne]; omega
        have hk2 : ¬ (k : Int) = 0 := by omega
        go_wp2_with fail
        exact ⟨⟨k + 1, by omega, by go_num, Lib.hid (by rw [HS.out, HM.out, HO.out]; simp <;> omega)⟩, by simp [intOf]; omega⟩
      ·have r1 : ¬ (c : Int) ≥ 48 := by omega
       have r3 : ((c : Int) == 45) = false := by rw [beq_eq_false_iff_ne]; omega
       have r4 : ((c : Int) == 95) = false := by rw [beq_eq_false_iff_ne]; omega
       have HO : Hid (othC c = false) := Lib.hid (by unfold othC; simp <;> omega)
       have HM := Lib.hid (show letC c = false from by rw [← Bool.not_eq_true]; intro e; have := HL.out.1 e; omega)
       clear HL
       by_cases hk0 : k = 0
       ·subst hk0
        go_wp2_with fail
        go_ret
        exact ⟨by rw [HS.out, HM.out]; simp <;> rfl, Below.refl _ _⟩
       ·have hk1 : ((k : Int) == 0) = false := by rw [beq_eq_false_iff_ne]; omega
        have hk2 : ¬ (k : Int) = 0 := by omega
        go_wp2_with fail
        go_ret
        exact ⟨by rw [HS.out, HM.out, HO.out]; simp <;> rfl, Below.refl _ _⟩
      ·have hor2 : bits BinOp.or IntKind.u8 45 32 = (x : Int) := by rw [← hor, h]; rfl
       have r1 : ¬ (c : Int) ≥ 48 := by omega
       have r3 : ((c : Int) == 45) = true := by rw [beq_iff_eq]; omega
       have HO : Hid (othC c = true) := Lib.hid (by unfold othC; simp <;> omega)
       have HM := Lib.hid (show letC c = false from by rw [← Bool.not_eq_true]; intro e; have := HL.out.1 e; omega)
       clear HL
       by_cases hk0 : k = 0
       ·subst hk0
        go_wp2_with fail
        go_ret
        exact ⟨by rw [HS.out, HM.out]; simp <;> rfl, Below.refl _ _⟩
       ·have hk1 : ((k : Int) == 0) = false := by rw [beq_eq_false_iff_ne]; omega
        have hk2 : ¬ (k : Int) = 0 := by omega
        go_wp2_with fail
        exact ⟨⟨k + 1, by omega, by go_num, Lib.hid (by rw [HS.out, HM.out, HO.out]; simp <;> omega)⟩, by simp [intOf]; omega⟩
      ·have r1 : (c : Int) ≥ 48 := by omega
       have r2 : ¬ (c : Int) ≤ 57 := by omega
       have r3 : ((c : Int) == 45) = false := by rw [beq_eq_false_iff_ne]; omega
       have r4 : ((c : Int) == 95) = false := by rw [beq_eq_false_iff_ne]; omega
       have HO : Hid (othC c = false) := Lib.hid (by unfold othC; simp <;> omega)
       have HM := Lib.hid (show letC c = false from by rw [← Bool.not_eq_true]; intro e; have := HL.out.1 e; omega)
       clear HL
       by_cases hk0 : k = 0
       ·subst hk0
        go_wp2_with fail
        go_ret
        exact ⟨by rw [HS.out, HM.out]; simp <;> rfl, Below.refl _ _⟩
       ·have hk1 : ((k : Int) == 0) = false := by rw [beq_eq_false_iff_ne]; omega
        have hk2 : ¬ (k : Int) = 0 := by omega
        go_wp2_with fail
        go_ret
        exact ⟨by rw [HS.out, HM.out, HO.out]; simp <;> rfl, Below.refl _ _⟩
      ·have hor2 : bits BinOp.or IntKind.u8 95 32 = (x : Int) := by rw [← hor, h]; rfl
       have r1 : (c : Int) ≥ 48 := by omega
       have r2 : ¬ (c : Int) ≤ 57 := by omega
       have r3 : ((c : Int) == 45) = false := by rw [beq_eq_false_iff_ne]; omega
       have r4 : ((c : Int) == 95) = true := by rw [beq_iff_eq]; omega
       have HO : Hid (othC c = true) := Lib.hid (by unfold othC; simp <;> omega)
       have HM := Lib.hid (show letC c = false from by rw [← Bool.not_eq_true]; intro e; have := HL.out.1 e; omega)
       clear HL
       by_cases hk0 : k = 0
       ·subst hk0
        go_wp2_with fail
        go_ret
        exact ⟨by rw [HS.out, HM.out]; simp <;> rfl, Below.refl _ _⟩
       ·have hk1 : ((k : Int) == 0) = false := by rw [beq_eq_false_iff_ne]; omega
        have hk2 : ¬ (k : Int) = 0 := by omega
        go_wp2_with fail
        exact ⟨⟨k + 1, by omega, by go_num, Lib.hid (by rw [HS.out, HM.out, HO.out]; simp <;> omega)⟩, by simp [intOf]; omega⟩
     ·have x1 : (x : Int) ≥ 97 := by omega
      have x2 : ¬ (x : Int) ≤ 122 := by omega
      have hco : (48 ≤ c ∧ c ≤ 57) ∨ (c < 48 ∧ c ≠ 45) ∨ c = 45 ∨ (57 < c ∧ c ≠ 95) ∨ c = 95 := by omega
      rcases hco with h | h | h | h | h
      ·have r1 : (c : Int) ≥ 48 := by omega
       have r2 : (c : Int) ≤ 57 := by omega
       have HO : Hid (othC c = true) := Lib.hid (by unfold othC; simp <;> omega)
       have HM := Lib.hid (show letC c = false from by rw [← Bool.not_eq_true]; intro e; have := HL.out.1 e; omega)
       clear HL
       by_cases hk0 : k = 0
       ·subst hk0
        go_wp2_with fail
        go_ret
        exact ⟨by rw [HS.out, HM.out]; simp <;> rfl, Below.refl _ _⟩
       ·have hk1 : ((k : Int) == 0) = false := by rw [beq_eq_false_iff_ne]; omega
        have hk2 : ¬ (k : Int) = 0 := by omega
        go_wp2_with fail
        exact ⟨⟨k + 1, by omega, by go_num, Lib.hid (by rw [HS.out, HM.out, HO.out]; simp <;> omega)⟩, by simp [intOf]; omega⟩
      ·have r1 : ¬ (c : Int) ≥ 48 := by omega
       have r3 : ((c : Int) == 45) = false := by rw [beq_eq_false_iff_ne]; omega
       have r4 : ((c : Int) == 95) = false := by rw [beq_eq_false_iff_ne]; omega
       have HO : Hid (othC c = false) := Lib.hid (by unfold othC; simp <;> omega)
       have HM := Lib.hid (show letC c = false from by rw [← Bool.not_eq_true]; intro e; have := HL.out.1 e; omega)
       clear HL
       by_cases hk0 : k = 0
       ·subst hk0
        go_wp2_with fail
        go_ret
        exact ⟨by rw [HS.out, HM.out]; simp <;> rfl, Below.refl _ _⟩
       ·have hk1 : ((k : Int) == 0) = false := by rw [beq_eq_false_iff_ne]; omega
        have hk2 : ¬ (k : Int) = 0 := by omega
        go_wp2_with fail
        go_ret
        exact ⟨by rw [HS.out, HM.out, HO.out]; simp <;> rfl, Below.refl _ _⟩
      ·have hor2 : bits BinOp.or IntKind.u8 45 32 = (x : Int) := by rw [← hor, h]; rfl
       have r1 : ¬ (c : Int) ≥ 48 := by omega
       have r3 : ((c : Int) == 45) = true := by rw [beq_iff_eq]; omega
       have HO : Hid (othC c = true) := Lib.hid (by unfold othC; simp <;> omega)
       have HM := Lib.hid (show letC c = false from by rw [← Bool.not_eq_true]; intro e; have := HL.out.1 e; omega)
       clear HL
       by_cases hk0 : k = 0
       ·subst hk0
        go_wp2_with fail
        go_ret
        exact ⟨by rw [HS.out, HM.out]; simp <;> rfl, Below.refl _ _⟩
       ·have hk1 : ((k : Int) == 0) = false := by rw [beq_eq_false_iff_ne]; omega
        have hk2 : ¬ (k : Int) = 0 := by omega
        go_wp2_with fail
        exact ⟨⟨k + 1, by omega, by go_num, Lib.hid (by rw [HS.out, HM.out, HO.out]; simp <;> omega)⟩, by simp [intOf]; omega⟩
      ·have r1 : (c : Int) ≥ 48 := by omega
       have r2 : ¬ (c : Int) ≤ 57 := by omega
       have r3 : ((c : Int) == 45) = false := by rw [beq_eq_false_iff_ne]; omega
       have r4 : ((c : Int) == 95) = false := by rw [beq_eq_false_iff_ne]; omega
       have HO : Hid (othC c = false) := Lib.hid (by unfold othC; simp <;> omega)
       have HM := Lib.hid (show letC c = false from by rw [← Bool.not_eq_true]; intro e; have := HL.out.1 e; omega)
       clear HL
       by_cases hk0 : k = 0
       ·subst hk0
        go_wp2_with fail
        go_ret
        exact ⟨by rw [HS.out, HM.out]; simp <;> rfl, Below.refl _ _⟩
       ·have hk1 : ((k : Int) == 0) = false := by rw [beq_eq_false_iff_ne]; omega
        have hk2 : ¬ (k : Int) = 0 := by omega
        go_wp2_with fail
        go_ret
        exact ⟨by rw [HS.out, HM.out, HO.out]; simp <;> rfl, Below.refl _ _⟩
      ·have hor2 : bits BinOp.or IntKind.u8 95 32 = (x : Int) := by rw [← hor, h]; rfl
       have r1 : (c : Int) ≥ 48 := by omega
       have r2 : ¬ (c : Int) ≤ 57 := by omega
       have r3 : ((c : Int) == 45) = false := by rw [beq_eq_false_iff_ne]; omega
       have r4 : ((c : Int) == 95) = true := by rw [beq_iff_eq]; omega
       have HO : Hid (othC c = true) := Lib.hid (by unfold othC; simp <;> omega)
       have HM := Lib.hid (show letC c = false from by rw [← Bool.not_eq_true]; intro e; have := HL.out.1 e; omega)
       clear HL
       by_cases hk0 : k = 0
       ·subst hk0
        go_wp2_with fail
        go_ret
        exact ⟨by rw [HS.out, HM.out]; simp <;> rfl, Below.refl _ _⟩
       ·have hk1 : ((k : Int) == 0) = false := by rw [beq_eq_false_iff_ne]; omega
        have hk2 : ¬ (k : Int) = 0 := by omega
        go_wp2_with fail
        exact ⟨⟨k + 1, by omega, by go_num, Lib.hid (by rw [HS.out, HM.out, HO.out]; simp <;> omega)⟩, by simp [intOf]; omega⟩
    ·have HF : Hid (V = true) := Lib.hid (by rw [HK.out, List.drop_eq_nil_of_le (by rw [bytesN_length]; omega)]; unfold nmA; split <;> rfl)
     have hlt' : ¬ (k : Int) < s.size := by omega
     clear HK
     go_wp2_with fail
     go_ret
     exact ⟨by rw [HF.out]; rfl, Below.refl _ _⟩
  ·have p0 : ¬ (s.size : Int) < 1 := by omega
   have p1 : (s.size : Int) > 40 := by omega
   have HV : Hid (nameB s = false) := Lib.hid (by unfold nameB; simp; omega)
   go_enter Tryz.func185, Tryz.ntmps185
   go_wp2_with fail
   go_ret
   exact ⟨by rw [HV.out]; rfl, Below.refl _ _⟩
 ·have p0 : (s.size : Int) < 1 := by omega
  have HV : Hid (nameB s = false) := Lib.hid (by unfold nameB; simp; omega)
  go_enter Tryz.func185, Tryz.ntmps185
  go_wp2_with fail
  go_ret
  exact ⟨by rw [HV.out]; rfl, Below.refl _ _⟩
def cntP (c : Nat) : Bool := decide (c &&& 192 ≠ 128)
def cntL (l : List Nat) : Nat := (l.filter cntP).length
def validB (s : ByteArray) : Bool := (pts (bytesN s)).isSome
def countN (s : ByteArray) : Int × Int := if validB s then ((cntL (bytesN s) : Int), 0) else (0, 12)
theorem cntL_le (l : List Nat) : cntL l ≤ l.length := List.length_filter_le _ _
theorem cntL_snoc {s : ByteArray} {k c : Nat} (hk : k < s.size) (hc : s[k].toNat = c) : cntL ((bytesN s).take (k + 1)) = cntL ((bytesN s).take k) + (if c &&& 192 = 128 then 0 else 1) := by
 unfold cntL
 rw [List.take_add_one, List.filter_append, List.length_append, bytesN_get s k hk, hc]
 by_cases h : c &&& 192 = 128
 ·rw [if_pos h]; simp [cntP, h]
 ·rw [if_neg h]; simp [cntP, h]
set_option maxRecDepth 100000 in
set_option maxHeartbeats 4000000 in
theorem count190 (s : ByteArray) (w : World) (hs : s.size ≤ 1048576000) : Calls Tryz.prog 190 #[.string s] w fun e w' => e = .returned (.tuple #[.int .i64 (countN s).1, .int .i64 (countN s).2]) ∧ Below w.heap.size w w' := by
 obtain ⟨V, hV⟩ : ∃ V, V = validB s := ⟨_, rfl⟩
 have C := Lib.hid (valid_lib s w hs)
 unfold countN
 rw [← hV]
 have C : Hid (Calls Tryz.prog 186 #[.string s] w fun e w' => e = .returned (.bool V) ∧ w = w') := Lib.hid (by rw [hV]; exact C.out)
 clear hV
 go_enter Tryz.func190, Tryz.ntmps190
 go_wp2_with fail
 refine C.out.mono ?_
 rintro e w1 ⟨rfl, rfl⟩
 clear C
 cases V
 ·go_wp2_with fail
  go_ret2
  exact ⟨rfl, Below.refl _ _⟩
 ·go_wp2_with fail
  go_loop [10, 2] (fun kv nv => ∃ k n : Nat, k ≤ s.size ∧ kv = .int .i64 k ∧ nv = .int .i64 n ∧ n ≤ s.size ∧ Hid (n = cntL ((bytesN s).take k))) (fun kv _ => s.size - (intOf kv).toNat)
  case atStart => exact ⟨0, 0, by omega, rfl, rfl, by omega, Lib.hid rfl⟩
  case round =>
   obtain ⟨k, n, hk, rfl, rfl, hn, HK⟩ := hrel
   by_cases hlt : k < s.size
   ·obtain ⟨c, hc⟩ : ∃ c, s[k].toNat = c := ⟨_, rfl⟩
    have hc2 : c < 256 := by rw [← hc]; exact s[k].toNat_lt
    have hlt' : (k : Int) < s.size := by omega
    have hand := and192 c hc2
    have HS := Lib.hid (cntL_snoc hlt hc)
    have HN := Lib.hid (show n + 1 ≤ s.size by
     have h1 := cntL_le ((bytesN s).take k)
     rw [List.length_take, bytesN_length] at h1
     have := HK.out
     omega)
    obtain ⟨x, hx⟩ : ∃ x, x = c &&& 192 := ⟨_, rfl⟩
    rw [← hx] at hand HS
    clear hx
    by_cases h : x = 128
    ·have HS2 : Hid (n = cntL ((bytesN s).take (k + 1))) := Lib.hid (by rw [HS.out, if_pos h, HK.out]; rfl)
     have hand2 : bits BinOp.and IntKind.u8 (c : Int) 192 = 128 := by rw [hand, h]; rfl
     clear hand HS h
     go_wp2_with fail
     exact ⟨⟨k + 1, n, by omega, by go_num, rfl, by omega, HS2⟩, by simp [intOf]; omega⟩
    ·have e1 : ((x : Int) == 128) = false := by rw [beq_eq_false_iff_ne]; omega
     have HS2 : Hid (n + 1 = cntL ((bytesN s).take (k + 1))) := Lib.hid (by rw [HS.out, if_neg h, HK.out])
     have en : IntKind.i64.wrap ((n : Int) + 1) = (n : Int) + 1 := IntWalk.i64_in _ (by have := HN.out; omega)
     clear HS h
     go_wp2_with fail
     exact ⟨⟨k + 1, n + 1, by omega, by go_num, by go_num, HN.out, HS2⟩, by simp [intOf]; omega⟩
   ·have hlt' : ¬ (k : Int) < s.size := by omega
    have HF := Lib.hid (show n = cntL (bytesN s) by rw [HK.out, List.take_of_length_le (by rw [bytesN_length]; omega)])
    clear HK
    go_wp2_with fail
    go_ret2
    exact ⟨by rw [← HF.out]; rfl, Below.refl _ _⟩
def prC (c : Nat) : Bool := decide (32 ≤ c ∧ c ≤ 126)
def stNameB (s : ByteArray) : Bool := decide (1 ≤ s.size ∧ s.size ≤ 40) && !decide ((bytesN s)[0]? = some 32) && !decide ((bytesN s)[s.size - 1]? = some 32) && (bytesN s).all prC
set_option maxRecDepth 100000 in
set_option maxHeartbeats 4000000 in
theorem stName200 (s : ByteArray) (w : World) : Calls Tryz.prog 200 #[.string s] w fun e w' => e = .returned (.bool (stNameB s)) ∧ Below w.heap.size w w' := by
 by_cases h0 : 1 ≤ s.size
 ·have p0 : ((s.size : Int) == 0) = false := by rw [beq_eq_false_iff_ne]; omega
  by_cases h1 : s.size ≤ 40
  ·have p1 : ¬ (s.size : Int) > 40 := by omega
   obtain ⟨a, ha⟩ : ∃ c, s[0].toNat = c := ⟨_, rfl⟩
   have es : IntKind.i64.wrap ((s.size : Int) - 1) = ((s.size - 1 : Nat) : Int) := by rw [IntWalk.i64_in _ (by omega)]; omega
   have es2 : wrap64 ((s.size : Int) - 1) = ((s.size - 1 : Nat) : Int) := by rw [IntWalk.wrap64_in _ (by omega)]; omega
   have es3 : (s.size : Int) - 1 = ((s.size - 1 : Nat) : Int) := by omega
   obtain ⟨m, hm⟩ : ∃ m, m = s.size - 1 := ⟨_, rfl⟩
   have hml : m < s.size := by omega
   obtain ⟨z, hz⟩ : ∃ c, s[m].toNat = c := ⟨_, rfl⟩
   have HA := Lib.hid (show (bytesN s)[0]? = some a by rw [bytesN_get s 0 (by omega), ha])
   have HZ := Lib.hid (show (bytesN s)[s.size - 1]? = some z by rw [← hm, bytesN_get s m hml, hz])
   rw [← hm] at es es2 es3
   have hml' : (m : Int) < s.size := by omega
   have HN := Lib.hid (show stNameB s = (!decide (a = 32) && !decide (z = 32) && (bytesN s).all prC) by unfold stNameB; rw [HA.out, HZ.out]; simp [h0, h1])
   obtain ⟨V, hV⟩ : ∃ V, V = stNameB s := ⟨_, rfl⟩
   rw [← hV] at HN ⊢
   clear hV hm HA HZ
   by_cases ea : a = 32
   ·have HF := Lib.hid (show V = false by rw [HN.out]; simp [ea])
    subst ea
    clear HN
    go_enter Tryz.func200, Tryz.ntmps200
    go_wp2_with fail
    go_ret
    exact ⟨by rw [HF.out]; rfl, Below.refl _ _⟩
   ·have f1 : ((a : Int) == 32) = false := by rw [beq_eq_false_iff_ne]; omega
    by_cases ez : z = 32
    ·have HF := Lib.hid (show V = false by rw [HN.out]; simp [ez])
     subst ez
     clear HN
     go_enter Tryz.func200, Tryz.ntmps200
     go_wp2_with fail
     go_ret
     exact ⟨by rw [HF.out]; rfl, Below.refl _ _⟩
    ·have f2 : ((z : Int) == 32) = false := by rw [beq_eq_false_iff_ne]; omega
     have HK0 := Lib.hid (show V = ((bytesN s).drop 0).all prC by rw [HN.out]; simp [ea, ez])
     clear HN
     go_enter Tryz.func200, Tryz.ntmps200
     go_wp2_with fail
     go_loop [27] (fun kv => ∃ k : Nat, k ≤ s.size ∧ kv = .int .i64 k ∧ Hid (V = ((bytesN s).drop k).all prC)) (fun kv => s.size - (intOf kv).toNat)
     case atStart => exact ⟨0, by omega, rfl, HK0⟩
     case round =>
      obtain ⟨k, hk, rfl, HK⟩ := hrel
      clear HK0
      by_cases hlt : k < s.size
      ·obtain ⟨c, hc⟩ : ∃ c, s[k].toNat = c := ⟨_, rfl⟩
       have hlt' : (k : Int) < s.size := by omega
       have HS := Lib.hid (show V = (prC c && ((bytesN s).drop (k + 1)).all prC) by rw [HK.out, bytesN_drop s k hlt, hc]; rfl)
       clear HK
       by_cases q1 : c < 32
       ·have q1' : (c : Int) < 32 := by omega
        have HF := Lib.hid (show V = false by rw [HS.out]; unfold prC; simp; omega)
        clear HS
        go_wp2_with fail
        go_ret
        exact ⟨by rw [HF.out]; rfl, Below.refl _ _⟩
       ·have q1' : ¬ (c : Int) < 32 := by omega
        by_cases q2 : c > 126
        ·have q2' : (c : Int) > 126 := by omega
         have HF := Lib.hid (show V = false by rw [HS.out]; unfold prC; simp; omega)
         clear HS
         go_wp2_with fail
         go_ret
         exact ⟨by rw [HF.out]; rfl, Below.refl _ _⟩
        ·have q2' : ¬ (c : Int) > 126 := by omega
         have HF := Lib.hid (show V = ((bytesN s).drop (k + 1)).all prC by rw [HS.out, show prC c = true by unfold prC; simp; omega]; rfl)
         clear HS
         go_wp2_with fail
         exact ⟨⟨k + 1, by omega, by go_num, HF⟩, by simp [intOf]; omega⟩
      ·have hlt' : ¬ (k : Int) < s.size := by omega
       have HF := Lib.hid (show V = true by rw [HK.out, List.drop_eq_nil_of_le (by rw [bytesN_length]; omega)]; rfl)
       clear HK
       go_wp2_with fail
       go_ret
       exact ⟨by rw [HF.out]; rfl, Below.refl _ _⟩
  ·have p1 : (s.size : Int) > 40 := by omega
   have HV : Hid (stNameB s = false) := Lib.hid (by unfold stNameB; simp; omega)
   go_enter Tryz.func200, Tryz.ntmps200
   go_wp2_with fail
   go_ret
   exact ⟨by rw [HV.out]; rfl, Below.refl _ _⟩
 ·have p0 : (s.size : Int) = 0 := by omega
  have HV : Hid (stNameB s = false) := Lib.hid (by unfold stNameB; simp; omega)
  go_enter Tryz.func200, Tryz.ntmps200
  go_wp2_with fail
  go_ret
  exact ⟨by rw [HV.out]; rfl, Below.refl _ _⟩
end Go.Proofs.YtmhhcfceikcfbaaGreat
