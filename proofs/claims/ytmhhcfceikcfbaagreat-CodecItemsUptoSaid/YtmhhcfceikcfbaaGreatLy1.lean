/- Walks: the law's readers of properties, heads. -/
import Derived.Test.YtmhhcfceikcfbaaGreatRx
import Derived.Test.YtmhhcfceikcfbaaGreatR7
import Derived.Test.YtmhhcfceikcfbaaGreatW7
namespace Go.Proofs.YtmhhcfceikcfbaaGreat
open Go.RowKit

set_option maxRecDepth 100000 in
set_option maxHeartbeats 4000000 in
theorem lr146  (r k0 : Nat) (s : ByteArray) (e0 : Int) (w : World) (h : Rdr 30 r s k0 e0 w) (hk0 : k0 ≤ s.size) (hs : s.size ≤ 549755813888) :
    Calls Tryz.prog 146 #[.pointer (some ⟨r, 0, none⟩)] w (ListC twoP twoR 2 30 r s k0 e0 w) := by
  have hrw := lt_of_blk h
  have C := Lib.hid (size73 r k0 s e0 w h hk0 (by omega))
  clear h
  go_enter Tryz.func146, Tryz.ntmps146
  go_wp2_with fail
  refine C.out.mono ?_
  rintro e w1 ⟨m, kz, ez, rfl, hkm, hn0, hr, hg, hsz⟩
  have HI0 : Hid (LstI twoP 2 187 w.heap.size (.slice none 0 0) [] w1) := Lib.hid (LstI.nil _ _ _ _ _)
  have HR0 : Hid (Rdr 30 r s kz ez w1 ∧ w.grownBy w1 (some r) ∧ Res (manyR twoR 0) s kz ez ([] : List Two) kz ez) := Lib.hid ⟨hr, hg, Res.many0 _ _ _ _ hsz.1⟩
  have HS := Lib.hid hsz
  have hms : m ≤ s.size := by omega
  clear C hr hg hsz hn0 hkm
  go_wp2_with fail
  go_loopw [3, 4] (fun ov nv wr => ∃ (i j k c : Nat) (e : Int) (A : Option Addr) (l : List Two), ov = .slice A i c ∧ nv = .int .i64 (j : Int) ∧ i + j = m ∧ l.length = i ∧ Hid (LstI twoP 2 187 w.heap.size (.slice A i c) l wr) ∧ Hid (Rdr 30 r s k e wr ∧ w.grownBy wr (some r) ∧ Res (manyR twoR i) s kz ez l k e)) (fun _ nv _ => (intOf nv).toNat)
  case atStart => exact ⟨0, m, kz, 0, ez, none, [], rfl, rfl, by omega, rfl, HI0, HR0⟩
  case round =>
    obtain ⟨i, j, k, c, e, A, l, rfl, rfl, hij, hil, HI, HR⟩ := hrel
    clear HI0 HR0
    obtain ⟨c0, c1, c2, f1, f2⟩ := HR.out.1.cells
    by_cases hj : j = 0
    · subst hj
      have hL : Hid (ListC twoP twoR 2 30 r s k0 e0 w (.returned (.slice A i c)) wr) := Lib.hid ⟨_, l, k, e, rfl, HI.out.slv stb_two, HR.out.1, HR.out.2.1, HS.out.list (by have h3 := HR.out.2.2; rw [show i = m by omega] at h3; exact h3)⟩
      clear HI HR HS hij hil
      go_wp2_with fail
      go_ret
      exact hL.out
    · have hj1 : (0 : Int) < (j : Int) := by omega
      have hj2 : decide ((0 : Int) < (j : Int)) = true := by simpa using hj1
      have hj3 : 0 < j := by omega
      rcases Int.decEq e 0 with he | he
      · have d0 : (e == 0) = false := by simpa using he
        have hL : Hid (ListC twoP twoR 2 30 r s k0 e0 w (.returned (.slice A i c)) wr) := Lib.hid ⟨_, l, k, e, rfl, HI.out.slv stb_two, HR.out.1, HR.out.2.1, HS.out.list (HR.out.2.2.manyErr he (by omega))⟩
        clear HI HR HS hij hil
        go_wp2_with fail
        go_ret
        exact hL.out
      · subst he
        obtain ⟨jj, hjj⟩ : ∃ jj, j = jj + 1 := ⟨j - 1, by omega⟩
        have wj : IntKind.i64.wrap ((j : Int) - 1) = (jj : Int) := by rw [IntKind.wrap_i64] <;> omega
        have hbw : w.heap.size ≤ wr.heap.size := HR.out.2.1.size
        have hrl : r < wr.heap.size := by omega
        have hk : k ≤ s.size := HR.out.2.2.1
        have Hjj := Lib.hid hjj
        have hij2 : i + jj + 1 = m := by omega
        clear hj hjj hij
        have C1 := Lib.hid (number17_any r k s 0 wr HR.out.1 hk (by omega))
        clear c0 c1 f1 f2
        go_wp2_with fail
        refine C1.out.mono ?_
        rintro e w3 ⟨x1, k2, e2, rfl, hx1, hr3, hg3, hs1⟩
        have hk2 : k2 ≤ s.size := hs1.1
        have C2 := Lib.hid (number17_any r k2 s e2 w3 hr3 hk2 (by omega))
        have HG3 := Lib.hid hg3
        have HS1 := Lib.hid hs1
        clear C1 hr3 hg3 hs1 c2
        go_upto_region 6 with fail
        refine wp_region_seq0 (by rfl) ?_
        simp only [List.map]
        refine sq_pure (.slice A i c) (by go_simp) trivial ?_
        simp only [Act.put, List.setIfInBounds_toArray, List.set_cons_zero, List.set_cons_succ]
        refine sq_pure (.int .i64 x1) (by go_simp) trivial ?_
        simp only [Act.put, List.setIfInBounds_toArray, List.set_cons_zero, List.set_cons_succ]
        refine sq_pure (.pointer (some ⟨r, 0, none⟩)) (by go_simp) trivial ?_
        simp only [Act.put, List.setIfInBounds_toArray, List.set_cons_zero, List.set_cons_succ]
        refine sq_call 17 #[.pointer (some ⟨r, 0, none⟩)] (by go_simp) ?_
        refine Calls.mono C2.out ?_
        rintro e w4 ⟨x2, k2x, e2x, rfl, hx2, hr4, hg4, hs2⟩
        have HG4 := Lib.hid (grown_trans HG3.out hg4)
        refine ⟨_, rfl, trivial, ?_⟩
        simp only [Act.put, List.setIfInBounds_toArray, List.set_cons_zero, List.set_cons_succ]
        refine sq_pure (.agg #[.int .i64 x1, .int .i64 x2]) (by go_simp) trivial ?_
        simp only [Act.put, List.setIfInBounds_toArray, List.set_cons_zero, List.set_cons_succ]
        refine sq_value (.slice (some ⟨w4.heap.size, 0, none⟩) 1 1) (w4.alloc (.cells #[.int .i64 x1, .int .i64 x2] 187)) (by go_simp) trivial ?_
        simp only [Act.put, List.setIfInBounds_toArray, List.set_cons_zero, List.set_cons_succ]
        refine sq_push stb_two _ _ 34 16 w4.heap.size 1 rfl rfl Tryz.underlying34 info187x (by decide) [.int .i64 x1, .int .i64 x2] (x1, x2) (HI.out.grow stb_two HG4.out hrw) rfl rfl (by simp [Value.oneCell']) ⟨rfl, hx1, hx2⟩ (fun g hg => by have h1 := (HI.out.own_ge g hg).2; have h2 := HG4.out.size; omega) (Nat.le_trans hbw HG4.out.size) (Nat.le_trans hbw HG4.out.size) rfl (by rw [hil]; omega) (by rw [hil]; omega) ?_
        intro v2 w2 hl2 hb2
        have HR2 : Hid (Rdr 30 r s k2x e2x w2 ∧ w.grownBy w2 (some r) ∧ Res (manyR twoR (i + 1)) s kz ez (l ++ [(x1, x2)]) k2x e2x) := Lib.hid ⟨(hb2.block r hrw).trans hr4, grown_below (grown_trans HR.out.2.1 HG4.out) hb2 (Nat.le_refl _), HR.out.2.2.snoc (HS1.out.seq hs2)⟩
        clear hr4 hg4 hs2 C2
        obtain ⟨A2, c2x, hv2⟩ := hl2.shape
        rw [List.length_append, hil] at hv2
        subst hv2
        have HI2 : Hid (LstI twoP 2 187 w.heap.size (.slice A2 (i + 1) c2x) (l ++ [(x1, x2)]) w2) := Lib.hid hl2
        refine ⟨trivial, ?_⟩
        simp only [Act.put, List.setIfInBounds_toArray, List.set_cons_zero, List.set_cons_succ]
        refine sq_pure (.slice A2 (i + 1) c2x) (by go_simp) trivial ?_
        simp only [Act.put, List.setIfInBounds_toArray, List.set_cons_zero, List.set_cons_succ]
        refine sq_done ?_
        clear hl2 hb2 HI HR
        go_wp2_with fail
        go_roundw
        case rel => exact ⟨i + 1, jj, k2x, c2x, e2x, A2, l ++ [(x1, x2)], rfl, by go_num, by omega, by simp [hil], HI2, HR2⟩
        case measure => rw [Hjj.out]; simp [intOf]
end Go.Proofs.YtmhhcfceikcfbaaGreat
