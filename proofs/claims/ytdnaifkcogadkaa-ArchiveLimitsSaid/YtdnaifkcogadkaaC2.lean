/- Walks: the names of parts. -/
import Derived.Test.YtdnaifkcogadkaaC1
namespace Go.Proofs.Ytdnaifkcogadkaa
open Go.RowKit

def okC (c : Nat) : Bool := (97 ≤ c && c ≤ 122) || (48 ≤ c && c ≤ 57) || c == 46 || c == 45 || c == 95 || c == 47
def nameL (l : List Nat) : Bool := !(l.length == 0 || 40 < l.length || l[0]? == some 47 || l[l.length - 1]? == some 47) && l.all okC
theorem okC_cases (c : Nat) : (97 ≤ c ∧ c ≤ 122 ∧ okC c = true) ∨ (48 ≤ c ∧ c ≤ 57 ∧ okC c = true) ∨ c = 46 ∨ c = 45 ∨ c = 95 ∨ c = 47 ∨
    (c < 48 ∧ c ≠ 46 ∧ c ≠ 45 ∧ c ≠ 95 ∧ c ≠ 47 ∧ okC c = false) ∨ (57 < c ∧ c < 97 ∧ c ≠ 46 ∧ c ≠ 45 ∧ c ≠ 95 ∧ c ≠ 47 ∧ okC c = false) ∨ (122 < c ∧ c ≠ 46 ∧ c ≠ 45 ∧ c ≠ 95 ∧ c ≠ 47 ∧ okC c = false) := by
  have hP : okC c = decide ((97 ≤ c ∧ c ≤ 122) ∨ (48 ≤ c ∧ c ≤ 57) ∨ c = 46 ∨ c = 45 ∨ c = 95 ∨ c = 47) := by
    rw [Bool.eq_iff_iff]; simp [okC]; omega
  rw [hP]
  simp only [decide_eq_true_eq, decide_eq_false_iff_not]
  omega
theorem bytesN_get (s : ByteArray) (k : Nat) (h : k < s.size) : (bytesN s)[k]? = some s[k].toNat := by
  have := bytesN_drop s k h
  have h2 : (bytesN s)[k]? = ((bytesN s).drop k)[0]? := by rw [List.getElem?_drop]; rfl
  rw [h2, this]; rfl

set_option maxRecDepth 100000 in
set_option maxHeartbeats 4000000 in
theorem isName_lib (s : ByteArray) (w : World) (hs : s.size ≤ 9223372036854775807) :
    Calls Try.prog 17 #[.string s] w fun e w' => e = .returned (.bool (nameL (bytesN s))) ∧ w = w' := by
  have hlen := bytesN_length s
  by_cases h0 : s.size = 0
  · have HV : Hid (nameL (bytesN s) = false) := Lib.hid (by unfold nameL; rw [hlen, h0]; rfl)
    have b0 : ((s.size : Int) == 0) = true := by simp [h0]
    have b1 : decide ((s.size : Int) < 1) = true := by simp [h0]
    clear hlen h0
    go_enter Try.func17, Try.ntmps17
    go_wp2_with fail
    go_ret
    exact ⟨ret_bool (by rw [HV.out]), rfl⟩
  · have hpos : 0 < s.size := by omega
    have b0 : ((s.size : Int) == 0) = false := by rw [beq_eq_false_iff_ne]; omega
    have b1 : decide ((s.size : Int) < 1) = false := by simp; omega
    by_cases h1 : 40 < s.size
    · have HV : Hid (nameL (bytesN s) = false) := Lib.hid (by unfold nameL; rw [hlen]; simp [h1])
      have d1 : decide (40 < (s.size : Int)) = true := by simp; omega
      clear hlen h0
      go_enter Try.func17, Try.ntmps17
      go_wp2_with fail
      go_ret
      exact ⟨ret_bool (by rw [HV.out]), rfl⟩
    · have d1 : decide (40 < (s.size : Int)) = false := by simp; omega
      have hg0 := bytesN_get s 0 hpos
      have hsz1 : s.size - 1 < s.size := by clear hlen h1 d1 hg0; omega
      have hgl := bytesN_get s (s.size - 1) hsz1
      have hsub : 1 ≤ (s.size : Int) := by omega
      by_cases c0 : (s[0]'hpos).toNat = 47
      · have HV : Hid (nameL (bytesN s) = false) := Lib.hid (by unfold nameL; rw [hg0, c0]; simp)
        have e0 : (((s[0]'hpos).toNat : Int) == 47) = true := by rw [c0]; rfl
        clear hlen h0 c0 hg0 hgl
        go_enter Try.func17, Try.ntmps17
        go_wp2_with fail
        go_ret
        exact ⟨ret_bool (by rw [HV.out]), rfl⟩
      · have e0 : (((s[0]'hpos).toNat : Int) == 47) = false := by rw [beq_eq_false_iff_ne]; omega
        by_cases cl : (s[s.size - 1]'hsz1).toNat = 47
        · have HV : Hid (nameL (bytesN s) = false) := Lib.hid (by unfold nameL; rw [hlen, hgl, cl]; simp)
          have el : (((s[s.size - 1]'hsz1).toNat : Int) == 47) = true := by rw [cl]; rfl
          clear hlen h0 c0 cl hg0 hgl
          go_enter Try.func17, Try.ntmps17
          go_wp2_with fail
          go_ret
          exact ⟨ret_bool (by rw [HV.out]), rfl⟩
        · have el : (((s[s.size - 1]'hsz1).toNat : Int) == 47) = false := by rw [beq_eq_false_iff_ne]; omega
          have HV : Hid (nameL (bytesN s) = ((bytesN s).drop 0).all okC) := Lib.hid (by
            unfold nameL
            rw [hlen, hg0, hgl]
            have x1 : (s.size == 0) = false := beq_eq_false_iff_ne.2 h0
            have x2 : decide (40 < s.size) = false := by simp; omega
            have x3 : (some (s[0]'hpos).toNat == some 47) = false := by simp [c0]
            have x4 : (some (s[s.size - 1]'hsz1).toNat == some 47) = false := by simp [cl]
            rw [x1, x2, x3, x4]; rfl)
          clear hlen h0 h1 c0 cl hg0 hgl
          go_enter Try.func17, Try.ntmps17
          go_wp2_with fail
          go_loop [28] (fun iv => ∃ k : Nat, k ≤ s.size ∧ iv = .int .i64 k ∧ Hid (nameL (bytesN s) = ((bytesN s).drop k).all okC)) (fun iv => s.size - (intOf iv).toNat)
          case atStart => exact ⟨0, Nat.zero_le _, rfl, HV⟩
          case round =>
            obtain ⟨k, hk, rfl, HK⟩ := hrel
            by_cases hlt : k < s.size
            · obtain ⟨c, hc⟩ : ∃ c, s[k].toNat = c := ⟨_, rfl⟩
              have HD : Hid (nameL (bytesN s) = (okC c && ((bytesN s).drop (k + 1)).all okC)) := Lib.hid (by rw [HK.out, bytesN_drop s k hlt, hc]; rfl)
              clear e0 el
              rcases okC_cases c with ⟨a1, a2, a3⟩ | ⟨a1, a2, a3⟩ | rfl | rfl | rfl | rfl | ⟨a1, m1, m2, m3, m4, a3⟩ | ⟨a1, a2, m1, m2, m3, m4, a3⟩ | ⟨a1, m1, m2, m3, m4, a3⟩
              · have A3 := Lib.hid a3
                clear a3
                have t1 : decide ((c : Int) < 97) = false := by simp; omega
                have t2 : decide (122 < (c : Int)) = false := by simp; omega
                go_wp2_with fail
                go_round
                case rel => exact ⟨k + 1, by omega, by go_num, Lib.hid (by rw [HD.out, A3.out]; rfl)⟩
                case measure => simp [intOf]; omega
              · have A3 := Lib.hid a3
                clear a3
                have t1 : decide ((c : Int) < 97) = true := by simp; omega
                have t3 : decide ((c : Int) < 48) = false := by simp; omega
                have t4 : decide (57 < (c : Int)) = false := by simp; omega
                go_wp2_with fail
                go_round
                case rel => exact ⟨k + 1, by omega, by go_num, Lib.hid (by rw [HD.out, A3.out]; rfl)⟩
                case measure => simp [intOf]; omega
              · go_wp2_with fail
                go_round
                case rel => exact ⟨k + 1, by omega, by go_num, Lib.hid (by rw [HD.out]; rfl)⟩
                case measure => simp [intOf]; omega
              · go_wp2_with fail
                go_round
                case rel => exact ⟨k + 1, by omega, by go_num, Lib.hid (by rw [HD.out]; rfl)⟩
                case measure => simp [intOf]; omega
              · go_wp2_with fail
                go_round
                case rel => exact ⟨k + 1, by omega, by go_num, Lib.hid (by rw [HD.out]; rfl)⟩
                case measure => simp [intOf]; omega
              · go_wp2_with fail
                go_round
                case rel => exact ⟨k + 1, by omega, by go_num, Lib.hid (by rw [HD.out]; rfl)⟩
                case measure => simp [intOf]; omega
              · have A3 := Lib.hid a3
                clear a3
                have t1 : decide ((c : Int) < 97) = true := by simp; omega
                have t3 : decide ((c : Int) < 48) = true := by simp; omega
                have n46 : ((c : Int) != 46) = true := by rw [bne_iff_ne]; omega
                have n45 : ((c : Int) != 45) = true := by rw [bne_iff_ne]; omega
                have n95 : ((c : Int) != 95) = true := by rw [bne_iff_ne]; omega
                have n47 : ((c : Int) != 47) = true := by rw [bne_iff_ne]; omega
                clear m1 m2 m3 m4
                go_wp2_with fail
                go_ret
                exact ⟨ret_bool (by rw [HD.out, A3.out]; rfl), rfl⟩
              · have A3 := Lib.hid a3
                clear a3
                have t1 : decide ((c : Int) < 97) = true := by simp; omega
                have t3 : decide ((c : Int) < 48) = false := by simp; omega
                have t4 : decide (57 < (c : Int)) = true := by simp; omega
                have n46 : ((c : Int) != 46) = true := by rw [bne_iff_ne]; omega
                have n45 : ((c : Int) != 45) = true := by rw [bne_iff_ne]; omega
                have n95 : ((c : Int) != 95) = true := by rw [bne_iff_ne]; omega
                have n47 : ((c : Int) != 47) = true := by rw [bne_iff_ne]; omega
                clear m1 m2 m3 m4
                go_wp2_with fail
                go_ret
                exact ⟨ret_bool (by rw [HD.out, A3.out]; rfl), rfl⟩
              · have A3 := Lib.hid a3
                clear a3
                have t1 : decide ((c : Int) < 97) = false := by simp; omega
                have t2 : decide (122 < (c : Int)) = true := by simp; omega
                have t3 : decide ((c : Int) < 48) = false := by simp; omega
                have t4 : decide (57 < (c : Int)) = true := by simp; omega
                have n46 : ((c : Int) != 46) = true := by rw [bne_iff_ne]; omega
                have n45 : ((c : Int) != 45) = true := by rw [bne_iff_ne]; omega
                have n95 : ((c : Int) != 95) = true := by rw [bne_iff_ne]; omega
                have n47 : ((c : Int) != 47) = true := by rw [bne_iff_ne]; omega
                clear m1 m2 m3 m4
                go_wp2_with fail
                go_ret
                exact ⟨ret_bool (by rw [HD.out, A3.out]; rfl), rfl⟩
            · have HE : Hid (nameL (bytesN s) = true) := Lib.hid (by rw [HK.out, List.drop_of_length_le (by rw [bytesN_length]; omega)]; rfl)
              go_wp2_with fail
              go_ret
              exact ⟨ret_bool (by rw [HE.out]), rfl⟩

set_option maxRecDepth 100000 in
set_option maxHeartbeats 4000000 in
theorem isName_ref (s : ByteArray) (w : World) (hs : s.size ≤ 9223372036854775807) :
    Calls Try.prog 18 #[.string s] w fun e w' => e = .returned (.bool (nameL (bytesN s))) ∧ w = w' := by
  have hlen := bytesN_length s
  by_cases h0 : s.size = 0
  · have HV : Hid (nameL (bytesN s) = false) := Lib.hid (by unfold nameL; rw [hlen, h0]; rfl)
    have b0 : ((s.size : Int) == 0) = true := by simp [h0]
    have b1 : decide ((s.size : Int) < 1) = true := by simp [h0]
    clear hlen h0
    go_enter Try.func18, Try.ntmps18
    go_wp2_with fail
    go_ret
    exact ⟨ret_bool (by rw [HV.out]), rfl⟩
  · have hpos : 0 < s.size := by omega
    have b0 : ((s.size : Int) == 0) = false := by rw [beq_eq_false_iff_ne]; omega
    have b1 : decide ((s.size : Int) < 1) = false := by simp; omega
    by_cases h1 : 40 < s.size
    · have HV : Hid (nameL (bytesN s) = false) := Lib.hid (by unfold nameL; rw [hlen]; simp [h1])
      have d1 : decide (40 < (s.size : Int)) = true := by simp; omega
      clear hlen h0
      go_enter Try.func18, Try.ntmps18
      go_wp2_with fail
      go_ret
      exact ⟨ret_bool (by rw [HV.out]), rfl⟩
    · have d1 : decide (40 < (s.size : Int)) = false := by simp; omega
      have hg0 := bytesN_get s 0 hpos
      have hsz1 : s.size - 1 < s.size := by clear hlen h1 d1 hg0; omega
      have hgl := bytesN_get s (s.size - 1) hsz1
      have hsub : 1 ≤ (s.size : Int) := by omega
      by_cases c0 : (s[0]'hpos).toNat = 47
      · have HV : Hid (nameL (bytesN s) = false) := Lib.hid (by unfold nameL; rw [hg0, c0]; simp)
        have e0 : (((s[0]'hpos).toNat : Int) == 47) = true := by rw [c0]; rfl
        clear hlen h0 c0 hg0 hgl
        go_enter Try.func18, Try.ntmps18
        go_wp2_with fail
        go_ret
        exact ⟨ret_bool (by rw [HV.out]), rfl⟩
      · have e0 : (((s[0]'hpos).toNat : Int) == 47) = false := by rw [beq_eq_false_iff_ne]; omega
        by_cases cl : (s[s.size - 1]'hsz1).toNat = 47
        · have HV : Hid (nameL (bytesN s) = false) := Lib.hid (by unfold nameL; rw [hlen, hgl, cl]; simp)
          have el : (((s[s.size - 1]'hsz1).toNat : Int) == 47) = true := by rw [cl]; rfl
          clear hlen h0 c0 cl hg0 hgl
          go_enter Try.func18, Try.ntmps18
          go_wp2_with fail
          go_ret
          exact ⟨ret_bool (by rw [HV.out]), rfl⟩
        · have el : (((s[s.size - 1]'hsz1).toNat : Int) == 47) = false := by rw [beq_eq_false_iff_ne]; omega
          have HV : Hid (nameL (bytesN s) = ((bytesN s).drop 0).all okC) := Lib.hid (by
            unfold nameL
            rw [hlen, hg0, hgl]
            have x1 : (s.size == 0) = false := beq_eq_false_iff_ne.2 h0
            have x2 : decide (40 < s.size) = false := by simp; omega
            have x3 : (some (s[0]'hpos).toNat == some 47) = false := by simp [c0]
            have x4 : (some (s[s.size - 1]'hsz1).toNat == some 47) = false := by simp [cl]
            rw [x1, x2, x3, x4]; rfl)
          clear hlen h0 h1 c0 cl hg0 hgl
          go_enter Try.func18, Try.ntmps18
          go_wp2_with fail
          go_loop [3] (fun iv => ∃ k : Nat, k ≤ s.size ∧ iv = .int .i64 k ∧ Hid (nameL (bytesN s) = ((bytesN s).drop k).all okC)) (fun iv => s.size - (intOf iv).toNat)
          case atStart => exact ⟨0, Nat.zero_le _, rfl, HV⟩
          case round =>
            obtain ⟨k, hk, rfl, HK⟩ := hrel
            by_cases hlt : k < s.size
            · obtain ⟨c, hc⟩ : ∃ c, s[k].toNat = c := ⟨_, rfl⟩
              have HD : Hid (nameL (bytesN s) = (okC c && ((bytesN s).drop (k + 1)).all okC)) := Lib.hid (by rw [HK.out, bytesN_drop s k hlt, hc]; rfl)
              clear e0 el
              rcases okC_cases c with ⟨a1, a2, a3⟩ | ⟨a1, a2, a3⟩ | rfl | rfl | rfl | rfl | ⟨a1, m1, m2, m3, m4, a3⟩ | ⟨a1, a2, m1, m2, m3, m4, a3⟩ | ⟨a1, m1, m2, m3, m4, a3⟩
              · have A3 := Lib.hid a3
                clear a3
                have t1 : decide (97 ≤ (c : Int)) = true := by simp; omega
                have t2 : decide ((c : Int) ≤ 122) = true := by simp; omega
                go_wp2_with fail
                go_round
                case rel => exact ⟨k + 1, by omega, by go_num, Lib.hid (by rw [HD.out, A3.out]; rfl)⟩
                case measure => simp [intOf]; omega
              · have A3 := Lib.hid a3
                clear a3
                have t1 : decide (97 ≤ (c : Int)) = false := by simp; omega
                have t3 : decide (48 ≤ (c : Int)) = true := by simp; omega
                have t4 : decide ((c : Int) ≤ 57) = true := by simp; omega
                go_wp2_with fail
                go_round
                case rel => exact ⟨k + 1, by omega, by go_num, Lib.hid (by rw [HD.out, A3.out]; rfl)⟩
                case measure => simp [intOf]; omega
              · go_wp2_with fail
                go_round
                case rel => exact ⟨k + 1, by omega, by go_num, Lib.hid (by rw [HD.out]; rfl)⟩
                case measure => simp [intOf]; omega
              · go_wp2_with fail
                go_round
                case rel => exact ⟨k + 1, by omega, by go_num, Lib.hid (by rw [HD.out]; rfl)⟩
                case measure => simp [intOf]; omega
              · go_wp2_with fail
                go_round
                case rel => exact ⟨k + 1, by omega, by go_num, Lib.hid (by rw [HD.out]; rfl)⟩
                case measure => simp [intOf]; omega
              · go_wp2_with fail
                go_round
                case rel => exact ⟨k + 1, by omega, by go_num, Lib.hid (by rw [HD.out]; rfl)⟩
                case measure => simp [intOf]; omega
              · have A3 := Lib.hid a3
                clear a3
                have t1 : decide (97 ≤ (c : Int)) = false := by simp; omega
                have t3 : decide (48 ≤ (c : Int)) = false := by simp; omega
                have n46 : ((c : Int) == 46) = false := by rw [beq_eq_false_iff_ne]; omega
                have n45 : ((c : Int) == 45) = false := by rw [beq_eq_false_iff_ne]; omega
                have n95 : ((c : Int) == 95) = false := by rw [beq_eq_false_iff_ne]; omega
                have n47 : ((c : Int) == 47) = false := by rw [beq_eq_false_iff_ne]; omega
                clear m1 m2 m3 m4
                go_wp2_with fail
                go_ret
                exact ⟨ret_bool (by rw [HD.out, A3.out]; rfl), rfl⟩
              · have A3 := Lib.hid a3
                clear a3
                have t1 : decide (97 ≤ (c : Int)) = false := by simp; omega
                have t3 : decide (48 ≤ (c : Int)) = true := by simp; omega
                have t4 : decide ((c : Int) ≤ 57) = false := by simp; omega
                have n46 : ((c : Int) == 46) = false := by rw [beq_eq_false_iff_ne]; omega
                have n45 : ((c : Int) == 45) = false := by rw [beq_eq_false_iff_ne]; omega
                have n95 : ((c : Int) == 95) = false := by rw [beq_eq_false_iff_ne]; omega
                have n47 : ((c : Int) == 47) = false := by rw [beq_eq_false_iff_ne]; omega
                clear m1 m2 m3 m4
                go_wp2_with fail
                go_ret
                exact ⟨ret_bool (by rw [HD.out, A3.out]; rfl), rfl⟩
              · have A3 := Lib.hid a3
                clear a3
                have t1 : decide (97 ≤ (c : Int)) = true := by simp; omega
                have t2 : decide ((c : Int) ≤ 122) = false := by simp; omega
                have t3 : decide (48 ≤ (c : Int)) = true := by simp; omega
                have t4 : decide ((c : Int) ≤ 57) = false := by simp; omega
                have n46 : ((c : Int) == 46) = false := by rw [beq_eq_false_iff_ne]; omega
                have n45 : ((c : Int) == 45) = false := by rw [beq_eq_false_iff_ne]; omega
                have n95 : ((c : Int) == 95) = false := by rw [beq_eq_false_iff_ne]; omega
                have n47 : ((c : Int) == 47) = false := by rw [beq_eq_false_iff_ne]; omega
                clear m1 m2 m3 m4
                go_wp2_with fail
                go_ret
                exact ⟨ret_bool (by rw [HD.out, A3.out]; rfl), rfl⟩
            · have HE : Hid (nameL (bytesN s) = true) := Lib.hid (by rw [HK.out, List.drop_of_length_le (by rw [bytesN_length]; omega)]; rfl)
              go_wp2_with fail
              go_ret
              exact ⟨ret_bool (by rw [HE.out]), rfl⟩

end Go.Proofs.Ytdnaifkcogadkaa
