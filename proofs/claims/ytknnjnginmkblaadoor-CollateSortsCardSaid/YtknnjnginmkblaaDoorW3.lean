/- Walks: a code point decoded. -/
import Derived.Test.YtknnjnginmkblaaDoorW2
namespace Go.Proofs.YtknnjnginmkblaaDoor
open Go.RowKit

/-- What decoding answers. -/
def DecE (R : Option (Nat × Nat)) (e : Ending) : Prop :=
  match R with
  | some (p, n) => e = .returned (.tuple #[.int .i64 (p : Int), .int .i64 (n : Int), .bool true])
  | none => ∃ x y : Int, e = .returned (.tuple #[.int .i64 x, .int .i64 y, .bool false])
theorem DecE.no {R : Option (Nat × Nat)} {x y : Int} (h : R = none) : DecE R (.returned (.tuple #[.int .i64 x, .int .i64 y, .bool false])) := by rw [h]; exact ⟨x, y, rfl⟩
theorem DecE.yes {R : Option (Nat × Nat)} {p n : Nat} {x y : Int} (h : R = some (p, n)) (hx : x = p) (hy : y = n) : DecE R (.returned (.tuple #[.int .i64 x, .int .i64 y, .bool true])) := by rw [h, hx, hy]; rfl

set_option maxRecDepth 100000 in
set_option maxHeartbeats 4000000 in
theorem decode_lib (s : ByteArray) (i : Nat) (w : World) (hs : s.size ≤ 1048576000) (hi : i < s.size) :
    Calls Tryd.prog 74 #[.string s, .int .i64 (i : Int)] w fun e w' => DecE (dec1 ((bytesN s).drop i)) e ∧ w = w' := by
  obtain ⟨a, ha⟩ : ∃ a, s[i].toNat = a := ⟨_, rfl⟩
  have ha2 : a < 256 := by rw [← ha]; exact s[i].toNat_lt
  obtain ⟨R, hR⟩ : ∃ R, R = dec1 ((bytesN s).drop i) := ⟨_, rfl⟩
  rw [← hR]
  rw [bytesN_drop s i hi, ha] at hR
  have hi0 : (i : Int) < s.size := by omega
  have hlen : lenB a = 0 ∨ lenB a = 1 ∨ lenB a = 2 ∨ lenB a = 3 ∨ lenB a = 4 := by
    unfold lenB
    repeat' split
    all_goals omega
  rcases hlen with hl | hl | hl | hl | hl
  · have HV : Hid (R = none) := Lib.hid (by rw [hR, dec1_zero hl])
    have HL := Lib.hid hl
    clear hl hR
    go_enter Tryd.func74, Tryd.ntmps74
    go_wp2_with fail
    refine (tail_lib a _).mono ?_
    rw [HL.out]
    rintro e w1 ⟨rfl, rfl⟩
    go_wp2_with fail
    go_ret3
    exact ⟨DecE.no HV.out, rfl⟩
  · have HV : Hid (R = some (a, 1)) := Lib.hid (by rw [hR, dec1_one hl])
    have HL := Lib.hid hl
    clear hl hR
    go_enter Tryd.func74, Tryd.ntmps74
    go_wp2_with fail
    refine (tail_lib a _).mono ?_
    rw [HL.out]
    rintro e w1 ⟨rfl, rfl⟩
    go_wp2_with fail
    go_ret3
    exact ⟨DecE.yes HV.out rfl rfl, rfl⟩
  · have HR : Hid (R = (decR (a % 32) (lowB a) (highB a) 1 ((bytesN s).drop (i + 1))).map fun p => (p, 2)) := Lib.hid (by rw [hR, dec1_two hl])
    have HL := Lib.hid hl
    have hmask : bits BinOp.and IntKind.i64 (a : Int) 31 = ((a % 32 : Nat) : Int) := and_mask a 5 31 ha2 rfl (by omega)
    have HLO : Hid (128 ≤ lowB a) := Lib.hid (by unfold lowB; repeat' split
                                                 all_goals omega)
    have HHI : Hid (highB a ≤ 191) := Lib.hid (by unfold highB; repeat' split
                                                  all_goals omega)
    obtain ⟨b0, hb0⟩ : ∃ b, b = a % 32 := ⟨_, rfl⟩
    rw [← hb0] at hmask HR
    have HB : Hid (b0 < 32) := Lib.hid (by omega)
    clear hl hR hb0
    go_enter Tryd.func74, Tryd.ntmps74
    go_wp2_with fail
    refine (tail_lib a _).mono ?_
    rw [HL.out]
    rintro e w1 ⟨rfl, rfl⟩
    obtain ⟨lo0, hlo0⟩ : ∃ x, x = lowB a := ⟨_, rfl⟩
    obtain ⟨hi0', hhi0⟩ : ∃ x, x = highB a := ⟨_, rfl⟩
    rw [← hlo0] at HR HLO ⊢
    rw [← hhi0] at HR HHI ⊢
    clear hlo0 hhi0
    go_wp2_with fail
    go_loop [4, 5, 8, 9] (fun pv kv lv hv => ∃ acc k lo hi : Nat, 1 ≤ k ∧ k ≤ 2 ∧ pv = .int .i64 acc ∧ kv = .int .i64 k ∧ lv = .int .u8 lo ∧ hv = .int .u8 hi ∧ Hid (k = 1 ∧ acc < 32 ∨ k = 2 ∧ acc < 2048 ∨ k = 3 ∧ acc < 131072 ∨ k = 4) ∧ Hid (128 ≤ lo ∧ hi ≤ 191) ∧ Hid (R = (decR acc lo hi (2 - k) ((bytesN s).drop (i + k))).map fun p => (p, 2))) (fun _ kv _ _ => 2 - (intOf kv).toNat)
    case atStart => exact ⟨b0, 1, lo0, hi0', by omega, by omega, rfl, rfl, rfl, rfl, Lib.hid (Or.inl ⟨rfl, HB.out⟩), Lib.hid ⟨HLO.out, HHI.out⟩, HR⟩
    case round =>
      obtain ⟨acc, k, lo, hi', hk1, hk2, rfl, rfl, rfl, rfl, HA, HLH, HK⟩ := hrel
      clear HR HB HLO HHI HL hmask
      by_cases hlt : k < 2
      · have e1 : IntKind.i64.wrap ((i : Int) + k) = (i : Int) + k := IntWalk.i64_in _ (by omega)
        by_cases hsz : i + k < s.size
        · have q1 : decide ((s.size : Int) ≤ (i : Int) + k) = false := by simp; omega
          have p1 : 0 ≤ (i : Int) + k := by omega
          have t1 : ((i : Int) + k).toNat = i + k := by omega
          have g1 : (i : Int) + k < s.size := by omega
          obtain ⟨b, hb⟩ : ∃ b, s[i + k].toNat = b := ⟨_, rfl⟩
          have hb2 : b < 256 := by rw [← hb]; exact s[i + k].toNat_lt
          have HD : Hid (R = (if lo ≤ b ∧ b ≤ hi' then decR (acc * 64 + (b - 128)) 128 191 (2 - (k + 1)) ((bytesN s).drop (i + (k + 1))) else none).map fun p => (p, 2)) := Lib.hid (by
            rw [HK.out, bytesN_drop s (i + k) hsz, hb, show 2 - k = (2 - (k + 1)) + 1 by omega]; rfl)
          clear HK
          by_cases h1 : b < lo
          · have d1 : decide ((b : Int) < lo) = true := by simp; omega
            have HV : Hid (R = none) := Lib.hid (by rw [HD.out, if_neg (by omega)]; rfl)
            go_wp2_with fail
            go_ret3
            exact ⟨DecE.no HV.out, rfl⟩
          · have d1 : decide ((b : Int) < lo) = false := by simp; omega
            by_cases h2 : hi' < b
            · have d2 : decide ((hi' : Int) < b) = true := by simp; omega
              have HV : Hid (R = none) := Lib.hid (by rw [HD.out, if_neg (by omega)]; rfl)
              go_wp2_with fail
              go_ret3
              exact ⟨DecE.no HV.out, rfl⟩
            · have d2 : decide ((hi' : Int) < b) = false := by simp; omega
              have hacc : acc < 131072 := by have := HA.out; omega
              have hbm : b - 128 = b % 64 := by have := HLH.out; omega
              have HV : Hid (R = (decR (acc * 64 + b % 64) 128 191 (2 - (k + 1)) ((bytesN s).drop (i + (k + 1)))).map fun p => (p, 2)) := Lib.hid (by rw [HD.out, if_pos (by omega), hbm])
              have m1 : bits BinOp.and IntKind.i64 (b : Int) 63 = ((b % 64 : Nat) : Int) := and_mask b 6 63 hb2 rfl (by omega)
              have sh : IntKind.i64.wrap ((acc : Int) * 64) = ((acc * 64 : Nat) : Int) := IntWalk.i64_in _ (by omega)
              have sh2 : wrap64 ((acc : Int) * 64) = ((acc * 64 : Nat) : Int) := IntWalk.wrap64_in _ (by omega)
              have ho := or_six acc (b % 64) (by omega) (by omega)
              have ek : IntKind.i64.wrap ((k : Int) + 1) = (k : Int) + 1 := IntWalk.i64_in _ (by omega)
              have HA2 : Hid (k + 1 = 1 ∧ acc * 64 + b % 64 < 32 ∨ k + 1 = 2 ∧ acc * 64 + b % 64 < 2048 ∨ k + 1 = 3 ∧ acc * 64 + b % 64 < 131072 ∨ k + 1 = 4) := Lib.hid (by have := HA.out; omega)
              obtain ⟨r0, hr0⟩ : ∃ x, x = acc * 64 + b % 64 := ⟨_, rfl⟩
              rw [← hr0] at ho HV HA2
              obtain ⟨c0, hc0⟩ : ∃ x, x = acc * 64 := ⟨_, rfl⟩
              rw [← hc0] at ho sh sh2
              obtain ⟨d0, hd0⟩ : ∃ x, x = b % 64 := ⟨_, rfl⟩
              rw [← hd0] at ho m1
              clear hbm hr0 hc0 hd0 HD HA hacc
              go_wp2_with fail
              go_round
              case rel => exact ⟨r0, k + 1, 128, 191, by omega, by omega, by go_num, by go_num, rfl, rfl, HA2, Lib.hid (by omega), HV⟩
              case measure => simp [intOf]; omega
        · have q1 : decide ((s.size : Int) ≤ (i : Int) + k) = true := by simp; omega
          have HV : Hid (R = none) := Lib.hid (by
            rw [HK.out, List.drop_eq_nil_of_le (by rw [bytesN_length]; omega), show 2 - k = (2 - (k + 1)) + 1 by omega]; rfl)
          clear hsz HK
          go_wp2_with fail
          go_ret3
          exact ⟨DecE.no HV.out, rfl⟩
      · have hk : k = 2 := by omega
        subst hk
        have HV : Hid (R = some (acc, 2)) := Lib.hid HK.out
        clear hlt HK
        go_wp2_with fail
        go_ret3
        exact ⟨DecE.yes HV.out rfl rfl, rfl⟩
  · have HR : Hid (R = (decR (a % 16) (lowB a) (highB a) 2 ((bytesN s).drop (i + 1))).map fun p => (p, 3)) := Lib.hid (by rw [hR, dec1_three hl])
    have HL := Lib.hid hl
    have hmask : bits BinOp.and IntKind.i64 (a : Int) 15 = ((a % 16 : Nat) : Int) := and_mask a 4 15 ha2 rfl (by omega)
    have HLO : Hid (128 ≤ lowB a) := Lib.hid (by unfold lowB; repeat' split
                                                 all_goals omega)
    have HHI : Hid (highB a ≤ 191) := Lib.hid (by unfold highB; repeat' split
                                                  all_goals omega)
    obtain ⟨b0, hb0⟩ : ∃ b, b = a % 16 := ⟨_, rfl⟩
    rw [← hb0] at hmask HR
    have HB : Hid (b0 < 32) := Lib.hid (by omega)
    clear hl hR hb0
    go_enter Tryd.func74, Tryd.ntmps74
    go_wp2_with fail
    refine (tail_lib a _).mono ?_
    rw [HL.out]
    rintro e w1 ⟨rfl, rfl⟩
    obtain ⟨lo0, hlo0⟩ : ∃ x, x = lowB a := ⟨_, rfl⟩
    obtain ⟨hi0', hhi0⟩ : ∃ x, x = highB a := ⟨_, rfl⟩
    rw [← hlo0] at HR HLO ⊢
    rw [← hhi0] at HR HHI ⊢
    clear hlo0 hhi0
    go_wp2_with fail
    go_loop [4, 5, 8, 9] (fun pv kv lv hv => ∃ acc k lo hi : Nat, 1 ≤ k ∧ k ≤ 3 ∧ pv = .int .i64 acc ∧ kv = .int .i64 k ∧ lv = .int .u8 lo ∧ hv = .int .u8 hi ∧ Hid (k = 1 ∧ acc < 32 ∨ k = 2 ∧ acc < 2048 ∨ k = 3 ∧ acc < 131072 ∨ k = 4) ∧ Hid (128 ≤ lo ∧ hi ≤ 191) ∧ Hid (R = (decR acc lo hi (3 - k) ((bytesN s).drop (i + k))).map fun p => (p, 3))) (fun _ kv _ _ => 3 - (intOf kv).toNat)
    case atStart => exact ⟨b0, 1, lo0, hi0', by omega, by omega, rfl, rfl, rfl, rfl, Lib.hid (Or.inl ⟨rfl, HB.out⟩), Lib.hid ⟨HLO.out, HHI.out⟩, HR⟩
    case round =>
      obtain ⟨acc, k, lo, hi', hk1, hk2, rfl, rfl, rfl, rfl, HA, HLH, HK⟩ := hrel
      clear HR HB HLO HHI HL hmask
      by_cases hlt : k < 3
      · have e1 : IntKind.i64.wrap ((i : Int) + k) = (i : Int) + k := IntWalk.i64_in _ (by omega)
        by_cases hsz : i + k < s.size
        · have q1 : decide ((s.size : Int) ≤ (i : Int) + k) = false := by simp; omega
          have p1 : 0 ≤ (i : Int) + k := by omega
          have t1 : ((i : Int) + k).toNat = i + k := by omega
          have g1 : (i : Int) + k < s.size := by omega
          obtain ⟨b, hb⟩ : ∃ b, s[i + k].toNat = b := ⟨_, rfl⟩
          have hb2 : b < 256 := by rw [← hb]; exact s[i + k].toNat_lt
          have HD : Hid (R = (if lo ≤ b ∧ b ≤ hi' then decR (acc * 64 + (b - 128)) 128 191 (3 - (k + 1)) ((bytesN s).drop (i + (k + 1))) else none).map fun p => (p, 3)) := Lib.hid (by
            rw [HK.out, bytesN_drop s (i + k) hsz, hb, show 3 - k = (3 - (k + 1)) + 1 by omega]; rfl)
          clear HK
          by_cases h1 : b < lo
          · have d1 : decide ((b : Int) < lo) = true := by simp; omega
            have HV : Hid (R = none) := Lib.hid (by rw [HD.out, if_neg (by omega)]; rfl)
            go_wp2_with fail
            go_ret3
            exact ⟨DecE.no HV.out, rfl⟩
          · have d1 : decide ((b : Int) < lo) = false := by simp; omega
            by_cases h2 : hi' < b
            · have d2 : decide ((hi' : Int) < b) = true := by simp; omega
              have HV : Hid (R = none) := Lib.hid (by rw [HD.out, if_neg (by omega)]; rfl)
              go_wp2_with fail
              go_ret3
              exact ⟨DecE.no HV.out, rfl⟩
            · have d2 : decide ((hi' : Int) < b) = false := by simp; omega
              have hacc : acc < 131072 := by have := HA.out; omega
              have hbm : b - 128 = b % 64 := by have := HLH.out; omega
              have HV : Hid (R = (decR (acc * 64 + b % 64) 128 191 (3 - (k + 1)) ((bytesN s).drop (i + (k + 1)))).map fun p => (p, 3)) := Lib.hid (by rw [HD.out, if_pos (by omega), hbm])
              have m1 : bits BinOp.and IntKind.i64 (b : Int) 63 = ((b % 64 : Nat) : Int) := and_mask b 6 63 hb2 rfl (by omega)
              have sh : IntKind.i64.wrap ((acc : Int) * 64) = ((acc * 64 : Nat) : Int) := IntWalk.i64_in _ (by omega)
              have sh2 : wrap64 ((acc : Int) * 64) = ((acc * 64 : Nat) : Int) := IntWalk.wrap64_in _ (by omega)
              have ho := or_six acc (b % 64) (by omega) (by omega)
              have ek : IntKind.i64.wrap ((k : Int) + 1) = (k : Int) + 1 := IntWalk.i64_in _ (by omega)
              have HA2 : Hid (k + 1 = 1 ∧ acc * 64 + b % 64 < 32 ∨ k + 1 = 2 ∧ acc * 64 + b % 64 < 2048 ∨ k + 1 = 3 ∧ acc * 64 + b % 64 < 131072 ∨ k + 1 = 4) := Lib.hid (by have := HA.out; omega)
              obtain ⟨r0, hr0⟩ : ∃ x, x = acc * 64 + b % 64 := ⟨_, rfl⟩
              rw [← hr0] at ho HV HA2
              obtain ⟨c0, hc0⟩ : ∃ x, x = acc * 64 := ⟨_, rfl⟩
              rw [← hc0] at ho sh sh2
              obtain ⟨d0, hd0⟩ : ∃ x, x = b % 64 := ⟨_, rfl⟩
              rw [← hd0] at ho m1
              clear hbm hr0 hc0 hd0 HD HA hacc
              go_wp2_with fail
              go_round
              case rel => exact ⟨r0, k + 1, 128, 191, by omega, by omega, by go_num, by go_num, rfl, rfl, HA2, Lib.hid (by omega), HV⟩
              case measure => simp [intOf]; omega
        · have q1 : decide ((s.size : Int) ≤ (i : Int) + k) = true := by simp; omega
          have HV : Hid (R = none) := Lib.hid (by
            rw [HK.out, List.drop_eq_nil_of_le (by rw [bytesN_length]; omega), show 3 - k = (3 - (k + 1)) + 1 by omega]; rfl)
          clear hsz HK
          go_wp2_with fail
          go_ret3
          exact ⟨DecE.no HV.out, rfl⟩
      · have hk : k = 3 := by omega
        subst hk
        have HV : Hid (R = some (acc, 3)) := Lib.hid HK.out
        clear hlt HK
        go_wp2_with fail
        go_ret3
        exact ⟨DecE.yes HV.out rfl rfl, rfl⟩
  · have HR : Hid (R = (decR (a % 8) (lowB a) (highB a) 3 ((bytesN s).drop (i + 1))).map fun p => (p, 4)) := Lib.hid (by rw [hR, dec1_four hl])
    have HL := Lib.hid hl
    have hmask : bits BinOp.and IntKind.i64 (a : Int) 7 = ((a % 8 : Nat) : Int) := and_mask a 3 7 ha2 rfl (by omega)
    have HLO : Hid (128 ≤ lowB a) := Lib.hid (by unfold lowB; repeat' split
                                                 all_goals omega)
    have HHI : Hid (highB a ≤ 191) := Lib.hid (by unfold highB; repeat' split
                                                  all_goals omega)
    obtain ⟨b0, hb0⟩ : ∃ b, b = a % 8 := ⟨_, rfl⟩
    rw [← hb0] at hmask HR
    have HB : Hid (b0 < 32) := Lib.hid (by omega)
    clear hl hR hb0
    go_enter Tryd.func74, Tryd.ntmps74
    go_wp2_with fail
    refine (tail_lib a _).mono ?_
    rw [HL.out]
    rintro e w1 ⟨rfl, rfl⟩
    obtain ⟨lo0, hlo0⟩ : ∃ x, x = lowB a := ⟨_, rfl⟩
    obtain ⟨hi0', hhi0⟩ : ∃ x, x = highB a := ⟨_, rfl⟩
    rw [← hlo0] at HR HLO ⊢
    rw [← hhi0] at HR HHI ⊢
    clear hlo0 hhi0
    go_wp2_with fail
    go_loop [4, 5, 8, 9] (fun pv kv lv hv => ∃ acc k lo hi : Nat, 1 ≤ k ∧ k ≤ 4 ∧ pv = .int .i64 acc ∧ kv = .int .i64 k ∧ lv = .int .u8 lo ∧ hv = .int .u8 hi ∧ Hid (k = 1 ∧ acc < 32 ∨ k = 2 ∧ acc < 2048 ∨ k = 3 ∧ acc < 131072 ∨ k = 4) ∧ Hid (128 ≤ lo ∧ hi ≤ 191) ∧ Hid (R = (decR acc lo hi (4 - k) ((bytesN s).drop (i + k))).map fun p => (p, 4))) (fun _ kv _ _ => 4 - (intOf kv).toNat)
    case atStart => exact ⟨b0, 1, lo0, hi0', by omega, by omega, rfl, rfl, rfl, rfl, Lib.hid (Or.inl ⟨rfl, HB.out⟩), Lib.hid ⟨HLO.out, HHI.out⟩, HR⟩
    case round =>
      obtain ⟨acc, k, lo, hi', hk1, hk2, rfl, rfl, rfl, rfl, HA, HLH, HK⟩ := hrel
      clear HR HB HLO HHI HL hmask
      by_cases hlt : k < 4
      · have e1 : IntKind.i64.wrap ((i : Int) + k) = (i : Int) + k := IntWalk.i64_in _ (by omega)
        by_cases hsz : i + k < s.size
        · have q1 : decide ((s.size : Int) ≤ (i : Int) + k) = false := by simp; omega
          have p1 : 0 ≤ (i : Int) + k := by omega
          have t1 : ((i : Int) + k).toNat = i + k := by omega
          have g1 : (i : Int) + k < s.size := by omega
          obtain ⟨b, hb⟩ : ∃ b, s[i + k].toNat = b := ⟨_, rfl⟩
          have hb2 : b < 256 := by rw [← hb]; exact s[i + k].toNat_lt
          have HD : Hid (R = (if lo ≤ b ∧ b ≤ hi' then decR (acc * 64 + (b - 128)) 128 191 (4 - (k + 1)) ((bytesN s).drop (i + (k + 1))) else none).map fun p => (p, 4)) := Lib.hid (by
            rw [HK.out, bytesN_drop s (i + k) hsz, hb, show 4 - k = (4 - (k + 1)) + 1 by omega]; rfl)
          clear HK
          by_cases h1 : b < lo
          · have d1 : decide ((b : Int) < lo) = true := by simp; omega
            have HV : Hid (R = none) := Lib.hid (by rw [HD.out, if_neg (by omega)]; rfl)
            go_wp2_with fail
            go_ret3
            exact ⟨DecE.no HV.out, rfl⟩
          · have d1 : decide ((b : Int) < lo) = false := by simp; omega
            by_cases h2 : hi' < b
            · have d2 : decide ((hi' : Int) < b) = true := by simp; omega
              have HV : Hid (R = none) := Lib.hid (by rw [HD.out, if_neg (by omega)]; rfl)
              go_wp2_with fail
              go_ret3
              exact ⟨DecE.no HV.out, rfl⟩
            · have d2 : decide ((hi' : Int) < b) = false := by simp; omega
              have hacc : acc < 131072 := by have := HA.out; omega
              have hbm : b - 128 = b % 64 := by have := HLH.out; omega
              have HV : Hid (R = (decR (acc * 64 + b % 64) 128 191 (4 - (k + 1)) ((bytesN s).drop (i + (k + 1)))).map fun p => (p, 4)) := Lib.hid (by rw [HD.out, if_pos (by omega), hbm])
              have m1 : bits BinOp.and IntKind.i64 (b : Int) 63 = ((b % 64 : Nat) : Int) := and_mask b 6 63 hb2 rfl (by omega)
              have sh : IntKind.i64.wrap ((acc : Int) * 64) = ((acc * 64 : Nat) : Int) := IntWalk.i64_in _ (by omega)
              have sh2 : wrap64 ((acc : Int) * 64) = ((acc * 64 : Nat) : Int) := IntWalk.wrap64_in _ (by omega)
              have ho := or_six acc (b % 64) (by omega) (by omega)
              have ek : IntKind.i64.wrap ((k : Int) + 1) = (k : Int) + 1 := IntWalk.i64_in _ (by omega)
              have HA2 : Hid (k + 1 = 1 ∧ acc * 64 + b % 64 < 32 ∨ k + 1 = 2 ∧ acc * 64 + b % 64 < 2048 ∨ k + 1 = 3 ∧ acc * 64 + b % 64 < 131072 ∨ k + 1 = 4) := Lib.hid (by have := HA.out; omega)
              obtain ⟨r0, hr0⟩ : ∃ x, x = acc * 64 + b % 64 := ⟨_, rfl⟩
              rw [← hr0] at ho HV HA2
              obtain ⟨c0, hc0⟩ : ∃ x, x = acc * 64 := ⟨_, rfl⟩
              rw [← hc0] at ho sh sh2
              obtain ⟨d0, hd0⟩ : ∃ x, x = b % 64 := ⟨_, rfl⟩
              rw [← hd0] at ho m1
              clear hbm hr0 hc0 hd0 HD HA hacc
              go_wp2_with fail
              go_round
              case rel => exact ⟨r0, k + 1, 128, 191, by omega, by omega, by go_num, by go_num, rfl, rfl, HA2, Lib.hid (by omega), HV⟩
              case measure => simp [intOf]; omega
        · have q1 : decide ((s.size : Int) ≤ (i : Int) + k) = true := by simp; omega
          have HV : Hid (R = none) := Lib.hid (by
            rw [HK.out, List.drop_eq_nil_of_le (by rw [bytesN_length]; omega), show 4 - k = (4 - (k + 1)) + 1 by omega]; rfl)
          clear hsz HK
          go_wp2_with fail
          go_ret3
          exact ⟨DecE.no HV.out, rfl⟩
      · have hk : k = 4 := by omega
        subst hk
        have HV : Hid (R = some (acc, 4)) := Lib.hid HK.out
        clear hlt HK
        go_wp2_with fail
        go_ret3
        exact ⟨DecE.yes HV.out rfl rfl, rfl⟩
end Go.Proofs.YtknnjnginmkblaaDoor
