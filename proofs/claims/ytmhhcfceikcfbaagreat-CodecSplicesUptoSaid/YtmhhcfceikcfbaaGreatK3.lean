/- Walks: the examples of the document hold. -/
import Derived.Test.YtmhhcfceikcfbaaGreatK2
namespace Go.Proofs.YtmhhcfceikcfbaaGreat
open Go.RowKit

theorem enc_small {n : Int} (u : Nat) (h : zz n = u) (hu : u < 128) : encN n = [u] := by unfold encN; rw [h, vb_small hu]
theorem enc_0 : encN 0 = [0] := enc_small 0 rfl (by decide)
theorem enc_1 : encN 1 = [2] := enc_small 2 rfl (by decide)
theorem enc_2 : encN 2 = [4] := enc_small 4 rfl (by decide)
theorem enc_m64 : encN (-64) = [127] := enc_small 127 rfl (by decide)
theorem enc_64 : encN 64 = [128, 1] := by
  unfold encN
  rw [show zz 64 = 128 from rfl, vb_big (by decide), vb_small (by decide)]
def hd0 : Hd := ([], 0, 0, [], [])
def it0 : It 1 := ((2 : Int), (0 : Int), (0 : Int), (⟨#[]⟩ : ByteArray), hd0, ([] : List (It 0)), ([] : List (Rw 0)))
def dc0 : Dc 0 := ([], hd0, [], [], [], [], [])
theorem hd0_enc : hdE hd0 = [0, 0, 0, 0, 0] := by
  simp only [hdE, seqE, listE, hd0, List.length_nil, List.flatMap_nil, List.append_nil]
  rw [show ((0 : Nat) : Int) = 0 from rfl, enc_0]
  rfl
theorem it0_enc : listE (itE 1) [it0] = [2, 4, 0, 0, 0, 0, 0, 0, 0, 0, 0, 0] := by
  have h0 : itE 1 it0 = encN 2 ++ (encN 0 ++ (encN 0 ++ (strE ⟨#[]⟩ ++ (hdE hd0 ++ (listE (itE 0) [] ++ listE (rwE (itE 0)) []))))) := rfl
  unfold listE
  rw [List.flatMap_cons, List.flatMap_nil, h0, hd0_enc, enc_2, enc_0]
  simp only [strE, textE, listE, bytesN, List.length_nil, List.map_nil, List.flatMap_nil, List.append_nil, List.length_cons]
  rw [show ((0 : Nat) : Int) = 0 from rfl, show ((0 + 1 : Nat) : Int) = 1 from rfl, enc_0, enc_1]
  rfl
theorem dc0_enc : magic ++ dcE 0 dc0 = [79, 66, 76, 49, 0, 0, 0, 0, 0, 0, 0, 0, 0, 0, 0] := by
  have h0 : dcE 0 dc0 = listE (itE 0) [] ++ (hdE hd0 ++ (listE revE [] ++ (listE styE [] ++ (listE lstE [] ++ (listE cmtE [] ++ listE vrE []))))) := rfl
  rw [h0, hd0_enc]
  simp only [listE, List.length_nil, List.flatMap_nil, List.append_nil]
  rw [show ((0 : Nat) : Int) = 0 from rfl, enc_0]
  rfl
theorem hd0_rep (w : World) (G : Nat → Prop) : hdP w G [.slice none 0 0, .int .i64 0, .int .i64 0, .slice none 0 0, .slice none 0 0] hd0 :=
  ⟨_, _, _, rfl, by unfold I64 hd0; simp, by unfold I64 hd0; simp, Slv.nil _ _, Slv.nil _ _, Slv.nil _ _⟩
theorem dc0_rep (w : World) : dcP 0 w (fun _ => False) [.slice none 0 0, .slice none 0 0, .int .i64 0, .int .i64 0, .slice none 0 0, .slice none 0 0, .slice none 0 0, .slice none 0 0, .slice none 0 0, .slice none 0 0, .slice none 0 0] dc0 :=
  ⟨_, _, _, _, _, _, _, _, _, _, _, rfl, Slv.nil _ _, hd0_rep _ _, Slv.nil _ _, ⟨_, _, _, _, rfl, Slv.nil _ _, Slv.nil _ _, Slv.nil _ _, Slv.nil _ _⟩⟩
theorem k_doc (w : World) : Calls Tryz.prog 21 #[.agg #[.slice none 0 0, .slice none 0 0, .int .i64 0, .int .i64 0, .slice none 0 0, .slice none 0 0, .slice none 0 0, .slice none 0 0, .slice none 0 0, .slice none 0 0, .slice none 0 0]] w fun e w' => e = .returned (.tuple #[.string ⟨#[79, 66, 76, 49, 0, 0, 0, 0, 0, 0, 0, 0, 0, 0, 0]⟩, .int .i64 0]) ∧ Below w.heap.size w w' := by
  have h := EncDoc21 0 (fun _ => False) w _ dc0 (dc0_rep w) (fun _ h => h.elim) (by rw [dc0_enc]; simp) (nil20 _)
  rw [dc0_enc] at h
  exact h
theorem k_n1 (w : World) : Calls Tryz.prog 13 #[.int .i64 (-64)] w fun e w' => e = .returned (.string ⟨#[127]⟩) ∧ Below w.heap.size w w' := by
  have h := Number13 (-64) (by unfold I64; omega) w
  rw [enc_m64] at h
  exact h
theorem k_n2 (w : World) : Calls Tryz.prog 13 #[.int .i64 64] w fun e w' => e = .returned (.string ⟨#[128, 1]⟩) ∧ Below w.heap.size w w' := by
  have h := Number13 64 (by unfold I64; omega) w
  rw [enc_64] at h
  exact h
theorem k_rdN : rdN [128, 1, 121] = .ok 64 2 := by
  simp [rdN, rdV, Rs.more, Rs.map, unzz]
theorem k_readN : readN ⟨#[120, 128, 1, 121]⟩ 1 = (64, 3, 0) := by
  unfold readN
  rw [if_neg (by show ¬ ((1 : Int) < 0 ∨ ((4 : Nat) : Int) < 1); omega)]
  rw [show (bytesN ⟨#[120, 128, 1, 121]⟩).drop (1 : Int).toNat = [128, 1, 121] from rfl, k_rdN]
  rfl
theorem k_rd (w : World) : Calls Tryz.prog 14 #[.string ⟨#[120, 128, 1, 121]⟩, .int .i64 1] w fun e w' => e = .returned (.tuple #[.int .i64 64, .int .i64 3, .int .i64 0]) ∧ Below w.heap.size w w' := by
  have h := Read14 ⟨#[120, 128, 1, 121]⟩ 1 w (by show (4 : Nat) ≤ 1099511627776; omega)
  rw [k_readN] at h
  exact h
theorem it0_rep (w : World) (g : Nat) (hb : w.heap[g]? = some (.cells #[.int .i64 2, .int .i64 0, .int .i64 0, .string ⟨#[]⟩, .slice none 0 0, .int .i64 0, .int .i64 0, .slice none 0 0, .slice none 0 0, .slice none 0 0, .slice none 0 0] 53 (0, 0))) :
    Slv (itP 1) 11 w (fun b => b < w.heap.size) (.slice (some ⟨g, 0, none⟩) 1 1) [it0] := by
  refine ⟨_, _, rfl, by simp, by simp [maxLen], fun _ => ⟨g, 0, rfl, lt_of_blk hb, lt_of_blk hb, fun i x hx => ?_⟩⟩
  have hi : i = 0 := by
    have := (List.getElem?_eq_some_iff.1 hx).1
    simpa using this
  subst hi
  have hxx : x = it0 := by simpa using hx.symm
  subst hxx
  refine ⟨[.int .i64 2, .int .i64 0, .int .i64 0, .string ⟨#[]⟩, .slice none 0 0, .int .i64 0, .int .i64 0, .slice none 0 0, .slice none 0 0, .slice none 0 0, .slice none 0 0], rfl, ?_, fun j u hu => ?_⟩
  · exact ⟨_, _, _, _, _, _, _, rfl, ⟨by unfold I64 it0; simp, by unfold I64 it0; simp, by unfold I64 it0; simp, by unfold szD it0; decide⟩, hd0_rep _ _, Slv.nil _ _, Slv.nil _ _⟩
  · rw [cell_of_row w g (0 + 0 * 11 + j) _ 53 (0, 0) hb]
    simpa using hu
theorem k_it (w : World) : Calls Tryz.prog 23 #[.slice (some ⟨w.heap.size, 0, none⟩) 1 1] (w.alloc (.cells #[.int .i64 2, .int .i64 0, .int .i64 0, .string ⟨#[]⟩, .slice none 0 0, .int .i64 0, .int .i64 0, .slice none 0 0, .slice none 0 0, .slice none 0 0, .slice none 0 0] 53))
    fun e w' => e = .returned (.string ⟨#[2, 4, 0, 0, 0, 0, 0, 0, 0, 0, 0, 0]⟩) ∧ Below w.heap.size w w' := by
  have h := EncItems23 1 _ _ _ [it0] (it0_rep _ w.heap.size (heap_alloc_new w _)) (fun _ h => h) (by rw [it0_enc]; simp)
  rw [it0_enc] at h
  refine h.mono ?_
  rintro e w' ⟨rfl, hb⟩
  exact ⟨rfl, ((Below.refl w.heap.size w).alloc (Nat.le_refl _) _).trans (hb.mono (by simp))⟩
/-- An answer that is true. -/
def TrueC (w : World) (e : Ending) (w' : World) : Prop := e = .returned (.bool true) ∧ Below w.heap.size w w'
set_option maxRecDepth 100000 in
set_option maxHeartbeats 4000000 in
theorem known15 (w : World) : Calls Tryz.prog 15 #[] w (TrueC w) := by
  go_enter Tryz.func15, Tryz.ntmps15
  go_wp2_with fail
  refine (k_doc w).mono ?_
  rintro e w1 ⟨rfl, hb1⟩
  have HB1 := Lib.hid hb1
  clear hb1
  go_wp2_with fail
  refine (k_rd w1).mono ?_
  rintro e w2 ⟨rfl, hb2⟩
  have HB2 := Lib.hid (HB1.out.trans (hb2.mono HB1.out.size))
  clear hb2 HB1
  go_wp2_with fail
  refine (k_n1 w2).mono ?_
  rintro e w3 ⟨rfl, hb3⟩
  have HB3 := Lib.hid (HB2.out.trans (hb3.mono HB2.out.size))
  clear hb3 HB2
  go_wp2_with fail
  refine (k_n2 w3).mono ?_
  rintro e w4 ⟨rfl, hb4⟩
  have HB4 := Lib.hid (HB3.out.trans (hb4.mono HB3.out.size))
  clear hb4 HB3
  go_wp2_with fail
  refine (k_it w4).mono ?_
  rintro e w5 ⟨rfl, hb5⟩
  have HB5 := Lib.hid (HB4.out.trans (hb5.mono HB4.out.size))
  clear hb5 HB4
  go_wp2_with fail
  go_ret
  exact ⟨rfl, HB5.out⟩
end Go.Proofs.YtmhhcfceikcfbaaGreat
