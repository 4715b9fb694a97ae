/- Walk: the law ArchiveEncodes. -/
import Derived.Test.YtdnaifkcogadkaaE5
namespace Go.Proofs.Ytdnaifkcogadkaa
open Go.RowKit

theorem encPost_one {l : List Prt} {s t : ByteArray} {n m : Int} (h1 : encPost l s n) (h2 : encPost l t m) : s = t ∧ n = m := by
  refine ⟨?_, h1.1.trans h2.1.symm⟩
  by_cases he : errE l = 0
  · obtain ⟨p, hp1, hp2, hp3⟩ := h1.2.2 he
    obtain ⟨q, hq1, hq2, hq3⟩ := h2.2.2 he
    obtain rfl := sorted_one (errE_apart he) hp1 hq1 hp2 hq2
    exact bytesN_inj (hp3.trans hq3.symm)
  · rw [h1.2.1 he, h2.2.1 he]

set_option maxRecDepth 100000 in
set_option maxHeartbeats 1000000 in
theorem encodes_any (v : Value) (l : List Prt) (w : World) (h : Parts w w.heap.size v l) : Calls Try.prog 3 #[v] w fun e w' => e = .returned (.bool true) ∧ Below w.heap.size w w' := by
  go_enter Try.func3, Try.ntmps3
  go_wp2_with fail
  refine (few_any v l w h).mono ?_
  rintro e w1 ⟨v1, rfl, hown, hk1⟩
  have hP1 := hown.sl encP_length
  clear hown
  go_wp2_with fail
  refine (known_any w1).mono ?_
  rintro e w2 ⟨rfl, hk2⟩
  have hP2 := hP1.over hk2
  have hb2 := hk1.trans (hk2.mono hk1.size)
  clear hP1 hk1 hk2
  go_wp2_with fail
  refine (encode_any v1 (fewL l) w2 hP2 (few_small l)).mono ?_
  rintro e w3 ⟨s, n, rfl, hp1, hk3⟩
  have hP3 := hP2.over hk3
  have hb3 := hb2.trans (hk3.mono hb2.size)
  clear hP2 hb2 hk3
  go_wp2_with fail
  refine (encode_ref v1 (fewL l) w3 hP3 (few_small l)).mono ?_
  rintro e w4 ⟨t, m, rfl, hp2, hk4⟩
  have hb4 := hb3.trans (hk4.mono hb3.size)
  obtain ⟨rfl, rfl⟩ := encPost_one hp1 hp2
  clear hP3 hb3 hk4 hp1 hp2
  go_wp2_with fail
  go_ret
  exact ⟨rfl, hb4⟩
end Go.Proofs.Ytdnaifkcogadkaa
