/- Walk: Similarity. -/
import Derived.Test.YtbpegoekjlehcaaW11
namespace Go.Proofs.Ytbpegoekjlehcaa
open Go.RowKit

def similL (a b : List Tok) : Int × Int :=
  if bothL a b ≠ 0 then (0, bothL a b) else if sumL a + sumL b = 0 then (1000, 0) else (2000 * oT 0 a b 0 0 0 / (sumL a + sumL b), 0)

attribute [local go_sem] field68
set_option maxRecDepth 100000 in
set_option maxHeartbeats 2000000 in
theorem simil_any (va vb : Value) (a b : List Tok) (w : World) (ha : Toks w w.heap.size va a) (hb : Toks w w.heap.size vb b) :
    Calls Try.prog 23 #[va, vb] w fun e w' => e = .returned (.tuple #[.int .i64 (similL a b).1, .int .i64 (similL a b).2]) ∧ Below w.heap.size w w' := by
  have H1 := Lib.hid (both_any va vb a b w ha hb)
  by_cases h0 : bothL a b = 0
  · have hb0 : (bothL a b != 0) = false := by simp [h0]
    obtain ⟨f1, f2, f3, f4⟩ := bothL_zero h0
    have hsa := sumL_bound a f1
    have hsb := sumL_bound b f2
    have HR0 := Lib.hid h0
    clear h0
    have HF := Lib.hid (And.intro f1 f2)
    have HSP := Lib.hid (sumL_append a b)
    have hwab : WOk (a ++ b) := fun t ht => by
      rcases List.mem_append.1 ht with h | h
      · exact f1 t h
      · exact f2 t h
    have HLAB : Hid ((a ++ b).length = a.length + b.length) := Lib.hid List.length_append
    clear f1 f2
    obtain ⟨l, hl⟩ : ∃ l, l = a ++ b := ⟨_, rfl⟩
    rw [← hl] at HSP hwab HLAB
    have HLE := Lib.hid hl
    clear hl
    obtain ⟨Aa, ca, hva, hna, hca, _⟩ := ha.tok
    obtain ⟨Ab, cb, hvb, hnb, hcb, _⟩ := hb.tok
    subst hva hvb
    go_enter Try.func23, Try.ntmps23
    go_wp2_with fail
    refine H1.out.mono ?_
    rintro e w1 ⟨rfl, hb1⟩
    go_wp2_with fail
    have ha1 := ha.over hb1
    have hb1' := hb.over hb1
    have hbA : Below w1.heap.size w1 (w1.alloc (.cells #[(.slice Aa a.length ca), (.slice Ab b.length cb)] 22)) := (Below.refl _ _).alloc (Nat.le_refl _) _
    refine (concat_any w1.heap.size 2 [((.slice Aa a.length ca), a), ((.slice Ab b.length cb), b)] rfl (w1.alloc (.cells #[(.slice Aa a.length ca), (.slice Ab b.length cb)] 22)) (by simp) (by simp [lensOf]; omega) (by omega) ?_ ?_).mono ?_
    · intro i hi
      have hi' : i < 2 := hi
      match i, hi' with
      | 0, _ => simp
      | 1, _ => simp
    · intro p hp
      simp only [List.mem_cons, List.not_mem_nil, or_false] at hp
      rcases hp with rfl | rfl
      · exact ha1.over hbA
      · exact hb1'.over hbA
    · rintro e w2 ⟨v2, rfl, hown2, hb2⟩
      have hfl : flatOf [((.slice Aa a.length ca), a), ((.slice Ab b.length cb), b)] = l := by rw [HLE.out]; simp [flatOf]
      rw [hfl] at hown2
      clear hfl
      have hb12 : Below w.heap.size w w2 := hb1.trans ((hbA.trans (hb2.mono (by simp))).mono hb1.size)
      have HT2 := hown2.sl encT_length
      clear hown2 hb2 hbA ha1 hb1'
      obtain ⟨A, c, rfl, hn, hc, HT⟩ := HT2.tok
      clear HT2
      go_wp2_with fail
      obtain ⟨wo, hwo⟩ : ∃ wo : World, wo = w2 := ⟨_, rfl⟩
      rw [← hwo] at HT hb12 ⊢
      clear hwo
      go_loopw [7, 21] (fun nv iv wr => ∃ k : Nat, k ≤ l.length ∧ iv = .int .i64 k ∧ nv = .int .i64 (sumL (l.take k)) ∧ Below wo.heap.size wo wr) (fun _ iv _ => l.length - (intOf iv).toNat)
      case atStart => exact ⟨0, Nat.zero_le _, rfl, rfl, Below.refl _ _⟩
      case round =>
        obtain ⟨k, hk, rfl, rfl, hbr⟩ := hrel
        have hbz := hbr.size
        have hbd := sumL_take_bound l hwab k
        have hle : l.length ≤ 4096 := by rw [HLAB.out]; omega
        by_cases hlt : k < l.length
        · have HS := Lib.hid (sumL_take l k hlt)
          have hwk := hwab l[k] (List.getElem_mem _)
          obtain ⟨b1, o1, rfl, hbB, g1, g2⟩ := (HT.below hbr) k hlt
          obtain ⟨t, ht⟩ : ∃ t, t = l[k] := ⟨_, rfl⟩
          rw [← ht] at HS hwk g1 g2
          clear ht
          go_wp2
          go_roundw
          case rel => exact ⟨k + 1, by omega, by go_num, by rw [HS.out], hbr.alloc hbz _⟩
          case measure => simp [intOf]; omega
        · have HE : Hid (sumL (l.take k) = sumL a + sumL b) := Lib.hid (by rw [List.take_of_length_le (by omega), HSP.out])
          rw [HE.out]
          clear hwab
          by_cases hz : sumL a + sumL b = 0
          · have hz' : (sumL a + sumL b == 0) = true := by simp [hz]
            have HR : Hid (similL a b = (1000, 0)) := Lib.hid (by unfold similL; rw [if_neg (by simp [HR0.out]), if_pos hz])
            clear hz
            go_wp2_with fail
            go_ret2
            refine ⟨?_, hb12.trans (hbr.mono hb12.size)⟩
            rw [HR.out]; rfl
          · have hz' : (sumL a + sumL b == 0) = false := by simp [hz]
            have HR : Hid (similL a b = (2000 * oT 0 a b 0 0 0 / (sumL a + sumL b), 0)) := Lib.hid (by unfold similL; rw [if_neg (by simp [HR0.out]), if_neg hz])
            have hpos : 1 ≤ sumL a + sumL b := by omega
            have hob := oT_bound 0 (by omega) (by omega) a b HF.out.1 HF.out.2 0 0 0
            have hob0 : 0 ≤ oT 0 a b 0 0 0 := by
              have := (optC_bound 0 (by omega) (a.drop 0) (b.drop 0) 0 (by simpa using HF.out.1) (by simpa using HF.out.2)).1
              simpa [oT, opn] using this
            have hb0r := hb12.trans (hbr.mono hb12.size)
            clear hz
            go_wp2_with fail
            refine (solve_any (.slice Aa a.length ca) (.slice Ab b.length cb) a b 0 wr (ha.over hb0r) (hb.over hb0r) HF.out.1 HF.out.2 f3 f4 (by omega) (by omega)).mono ?_
            rintro e w3 ⟨v, rfl, hT, hb3⟩
            obtain ⟨C, rc, rfl, _⟩ := hT
            go_wp2_with fail
            go_ret2
            refine ⟨?_, hb0r.trans (hb3.mono hb0r.size)⟩
            rw [HR.out]; rfl
  · have hb0 : (bothL a b != 0) = true := by simp [h0]
    have HR : Hid (similL a b = (0, bothL a b)) := Lib.hid (by unfold similL; rw [if_pos (by simp [h0])])
    clear h0
    go_enter Try.func23, Try.ntmps23
    go_wp2_with fail
    refine H1.out.mono ?_
    rintro e w1 ⟨rfl, hb1⟩
    go_wp2_with fail
    go_ret2
    refine ⟨?_, hb1⟩
    rw [HR.out]; rfl

end Go.Proofs.Ytbpegoekjlehcaa
