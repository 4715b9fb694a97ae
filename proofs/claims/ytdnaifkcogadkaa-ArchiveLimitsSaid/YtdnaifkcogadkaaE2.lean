/- Walk: checked. -/
import Derived.Laws.StructEq
import Derived.Test.YtdnaifkcogadkaaE1
namespace Go.Proofs.Ytdnaifkcogadkaa
open Go.RowKit

def seenOf (l : List Prt) (k : Nat) : List ByteArray := ((l.take k).map Prod.fst).reverse
theorem seenOf_succ (l : List Prt) (k : Nat) (h : k < l.length) : seenOf l (k + 1) = l[k].1 :: seenOf l k := by
  unfold seenOf
  rw [List.take_succ_eq_append_getElem h, List.map_append, List.reverse_append]
  rfl
theorem mem_seenOf (l : List Prt) (k : Nat) (hk : k ≤ l.length) (x : ByteArray) : x ∈ seenOf l k ↔ ∃ j, ∃ h : j < k, (l[j]'(by omega)).1 = x := by
  unfold seenOf
  rw [List.mem_reverse, List.mem_map]
  constructor
  · rintro ⟨p, hp, rfl⟩
    obtain ⟨j, hj, rfl⟩ := List.mem_iff_getElem.1 hp
    rw [List.length_take] at hj
    exact ⟨j, by omega, by simp⟩
  · rintro ⟨j, hj, rfl⟩
    refine ⟨l[j]'(by omega), ?_, rfl⟩
    rw [List.mem_iff_getElem]
    exact ⟨j, by rw [List.length_take]; omega, by simp⟩

theorem lists_ne {x y : ByteArray} (h : x ≠ y) : (x.toList == y.toList) = false := by
  have hb : (x == y) = false := by
    cases hxy : (x == y) with
    | false => rfl
    | true => exact absurd ((Go.MapKept.bytes_beq x y).1 hxy) h
  rw [← beq_toListBytes]; exact hb

set_option maxRecDepth 100000 in
set_option maxHeartbeats 2000000 in
theorem checked_any (v : Value) (l : List Prt) (w : World) (h : Parts w w.heap.size v l) (hS : Small l) :
    Calls Try.prog 33 #[v] w fun e w' => e = .returned (.int .i64 (errE l)) ∧ Below w.heap.size w w' := by
  obtain ⟨A, c, rfl, hlc, hc, HP⟩ := h.part
  have HP := Lib.hid HP
  have HS := Lib.hid hS
  have hll := hS.1
  clear h hS
  by_cases h64 : 64 < l.length
  · have HV : Hid (errE l = 9) := Lib.hid (by unfold errE; rw [if_pos h64])
    go_enter Try.func33, Try.ntmps33
    go_wp2_with fail
    go_ret
    exact ⟨by rw [HV.out]; rfl, Below.refl _ _⟩
  · have HV : Hid (errE l = chkAll (l.drop 0) (seenOf l 0)) := Lib.hid (by unfold errE; rw [if_neg h64]; rfl)
    go_enter Try.func33, Try.ntmps33
    go_wp2_with fail
    go_loopw [3] (fun iv wr => ∃ k : Nat, k ≤ l.length ∧ iv = .int .i64 k ∧ Hid (errE l = chkAll (l.drop k) (seenOf l k)) ∧ Below w.heap.size w wr) (fun iv _ => l.length - (intOf iv).toNat)
    case atStart => exact ⟨0, Nat.zero_le _, rfl, HV, Below.refl _ _⟩
    case round =>
      obtain ⟨k, hk, rfl, HK, hb⟩ := hrel
      have hbz := hb.size
      by_cases hlt : k < l.length
      · obtain ⟨b, o, rfl, hbB, g1, g2⟩ := (HP.out.below hb) k hlt
        have HD : Hid (errE l = if chkP l[k] ≠ 0 then chkP l[k] else if seenB (seenOf l k) l[k].1 = true then 7 else chkAll (l.drop (k + 1)) (seenOf l (k + 1))) := Lib.hid (by rw [HK.out, List.drop_eq_getElem_cons hlt, chkAll_cons, seenOf_succ l k hlt])
        obtain ⟨hn1, hn2⟩ := HS.out.2 l[k] (List.getElem_mem _)
        have HSN := Lib.hid (mem_seenOf l k hk l[k].1)
        obtain ⟨x, hx⟩ : ∃ x, x = l[k] := ⟨_, rfl⟩
        rw [← hx] at g1 g2 HD hn1 hn2 HSN
        clear hx
        obtain ⟨x0, x1⟩ := x
        simp only at g1 g2 hn1 hn2 HSN
        have hbW : b < wr.heap.size := by omega
        by_cases h1 : nameL (bytesN x0) = true
        · have H1 := Lib.hid h1
          by_cases h2 : 1048576 < x1.size
          · have HV2 : Hid (errE l = 10) := Lib.hid (by rw [HD.out]; simp [chkP, h1, h2])
            clear h1
            go_wp2_with fail
            refine (isName_ref x0 wr (by omega)).mono ?_
            rw [H1.out]
            rintro e w1 ⟨rfl, rfl⟩
            go_wp2_with fail
            go_ret
            exact ⟨by rw [HV2.out]; rfl, hb⟩
          · have HD2 : Hid (errE l = if seenB (seenOf l k) x0 = true then 7 else chkAll (l.drop (k + 1)) (seenOf l (k + 1))) := Lib.hid (by rw [HD.out, if_neg (by simp [chkP, h1, h2])])
            clear h1
            go_wp2_with fail
            refine (isName_ref x0 wr (by omega)).mono ?_
            rw [H1.out]
            rintro e w1 ⟨rfl, rfl⟩
            go_wp2_with fail
            go_loopw [4] (fun jv wq => ∃ j : Nat, j ≤ k ∧ jv = .int .i64 j ∧ Hid (∀ i, ∀ h : i < j, ∀ h2 : i < l.length, l[i].1 ≠ x0) ∧ wq.cell? ⟨b, o + k * 2, none⟩ = some (.string x0) ∧ Below w.heap.size w wq) (fun jv _ => k - (intOf jv).toNat)
            case atStart => exact ⟨0, Nat.zero_le _, rfl, Lib.hid (fun i h => by omega), g1, hb⟩
            case round =>
              obtain ⟨j, hj, rfl, HJ, k1, hbj⟩ := hrel
              have hbjz := hbj.size
              by_cases hjk : j < k
              · obtain ⟨b', o', he', hbB', g1', g2'⟩ := (HP.out.below hbj) j (by omega)
                cases he'
                have HSJ : Hid (l[j].1 = x0 → x0 ∈ seenOf l k) := Lib.hid (fun e => HSN.out.2 ⟨j, hjk, e⟩)
                have HNJ : Hid (l[j].1 ≠ x0 → ∀ i, ∀ h : i < j + 1, ∀ h2 : i < l.length, l[i].1 ≠ x0) := Lib.hid (fun e i hi h2 => by
                  by_cases hij : i < j
                  · exact HJ.out i hij h2
                  · obtain rfl : i = j := by omega
                    exact e)
                obtain ⟨y, hy⟩ : ∃ y, y = l[j].1 := ⟨_, rfl⟩
                rw [← hy] at g1' HSJ HNJ
                clear hy g2'
                by_cases hyx : y = x0
                · have HV2 : Hid (errE l = 7) := Lib.hid (by rw [HD2.out, if_pos ((seenB_iff _ _).2 (HSJ.out hyx))])
                  subst hyx
                  go_wp2_with fail
                  go_quiet (fail)
                  go_wp2_with fail
                  go_ret
                  exact ⟨by rw [HV2.out]; rfl, below_drewN hbj _⟩
                · have HN2 := Lib.hid (HNJ.out hyx)
                  have hbe := lists_ne hyx
                  go_wp2_with fail
                  go_quiet (fail)
                  go_wp2_with fail
                  go_roundw
                  case rel => exact ⟨j + 1, by omega, by go_num, HN2, k1, below_drewN hbj _⟩
                  case measure => simp [intOf]; omega
              · have HE : Hid (errE l = chkAll (l.drop (k + 1)) (seenOf l (k + 1))) := Lib.hid (by
                  rw [HD2.out, if_neg (fun hs => ?_)]
                  obtain ⟨i, hi, e⟩ := HSN.out.1 ((seenB_iff _ _).1 hs)
                  exact HJ.out i (by omega) (by omega) e)
                go_wp2_with fail
                go_roundw
                case rel => exact ⟨k + 1, by omega, by go_num, HE, hbj⟩
                case measure => simp [intOf]; omega
        · have h1' : nameL (bytesN x0) = false := by simpa using h1
          have HV2 : Hid (errE l = 13) := Lib.hid (by rw [HD.out]; simp [chkP, h1'])
          have H1 := Lib.hid h1'
          clear h1 h1'
          go_wp2_with fail
          refine (isName_ref x0 wr (by omega)).mono ?_
          rw [H1.out]
          rintro e w1 ⟨rfl, rfl⟩
          go_wp2_with fail
          go_ret
          exact ⟨by rw [HV2.out]; rfl, hb⟩
      · have HE : Hid (errE l = 0) := Lib.hid (by rw [HK.out, List.drop_of_length_le (by omega)]; rfl)
        go_wp2_with fail
        go_ret
        exact ⟨by rw [HE.out]; rfl, hb⟩
end Go.Proofs.Ytdnaifkcogadkaa
