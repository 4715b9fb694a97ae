/- What stands in memory lies in the domains of the readers; the arguments of the laws. -/
import Derived.Test.YtmhhcfceikcfbaaGreatDfN14
import Derived.Test.YtmhhcfceikcfbaaGreatDfT2
namespace Go.Proofs.YtmhhcfceikcfbaaGreat
open Go.RowKit Go.WideShapes
def Dom {α : Type} (R : Rp α) (D : α → Prop) : Prop := ∀ w G vs x, R w G vs x → D x
theorem dom_slv {α : Type} {R : Rp α} {D : α → Prop} (h : Dom R D) {sz : Nat} {w : World} {G : Nat → Prop} {v : Value} {l : List α} (hv : Slv R sz w G v l) : Li D l := by
 obtain ⟨A, c, rfl, h1, h2⟩ := hv.shape
 unfold maxLen at h2
 refine ⟨by omega, fun x hx => ?_⟩
 obtain ⟨i, hi⟩ := List.mem_iff_getElem?.1 hx
 obtain ⟨_, _, vs, _, _, _, _, hR, _⟩ := hv.at i x hi
 exact h _ _ _ _ hR
theorem dom_two : Dom twoP twoD := fun _ _ _ _ h => h.2
theorem dom_lay : Dom layP layD := fun _ _ _ _ h => h.2
theorem dom_hd : Dom hdP hdD := by
 rintro w G vs x ⟨_, _, _, _, a, b, h1, h2, h3⟩
 exact ⟨dom_slv dom_two h1, a, b, dom_slv dom_two h2, dom_slv dom_lay h3⟩
theorem dom_lvl : Dom lvlP lvlD := fun _ _ _ _ h => h.2
theorem dom_sty : Dom styP styD := by
 rintro w G vs x ⟨_, _, ⟨a, b, c, d, e⟩, h⟩
 exact ⟨a, b, c, d, e, dom_slv dom_two h⟩
theorem dom_lst : Dom lstP lstD := by
 rintro w G vs x ⟨_, _, a, h⟩
 exact ⟨a, dom_slv dom_lvl h⟩
theorem dom_cmt : Dom cmtP cmtD := fun _ _ _ _ h => h.2
theorem dom_vr : Dom vrP vrD := fun _ _ _ _ h => h.2
theorem dom_stg : Dom stgP stgD := by
 rintro w G vs x ⟨_, _, _, _, _, h1, h2, h3, h4⟩
 exact ⟨dom_slv dom_sty h1, dom_slv dom_lst h2, dom_slv dom_cmt h3, dom_slv dom_vr h4⟩
theorem dom_ce {α : Type} {R : Rp α} {D : α → Prop} (h : Dom R D) : Dom (ceP R) (ceD D) := by
 rintro w G vs x ⟨_, _, _, _, _, _, _, a, b, c⟩
 exact ⟨a, dom_hd _ _ _ _ b, dom_slv h c⟩
theorem dom_rw {α : Type} {R : Rp α} {D : α → Prop} (h : Dom R D) : Dom (rwP R) (rwD D) := by
 rintro w G vs x ⟨_, _, _, _, _, _, _, b, c⟩
 exact ⟨dom_hd _ _ _ _ b, dom_slv (dom_ce h) c⟩
theorem dom_is {α : Type} {R : Rp α} {D : α → Prop} (h : Dom R D) : Dom (isP R) (isD D) := by
 rintro w G vs x ⟨_, _, _, _, _, _, _, _, ⟨a, b, c, d⟩, e, f, g⟩
 exact ⟨a, b, c, d, dom_hd _ _ _ _ e, dom_slv h f, dom_slv (dom_rw h) g⟩
theorem dom_it : ∀ n, Dom (itP n) (itD n)
 | 0 => fun _ _ _ x _ => Empty.elim x
 | n + 1 => dom_is (dom_it n)
section
variable {H : Type} {enc : TypeId × Value → H}
set_option maxRecDepth 100000
end
end Go.Proofs.YtmhhcfceikcfbaaGreat
namespace Go.Proofs.YtmhhcfceikcfbaaGreat
open Go.RowKit
/-- What document.Check answers. -/
def chkD {n : Nat} (x : Dc n) : Int := chkT (stgT styT tmpT) x
theorem check_doc (n : Nat) (G : Nat → Prop) (w : World) (vs : List Value) (x : Dc n) (hX : dcP n w G vs x) (hG : ∀ b, G b → b < w.heap.size) (hz : (dcE n x).length ≤ 1048576000) : Calls Tryz.prog 20 #[.agg vs.toArray] w (RetI (chkD x) w) :=
 Check20 _ (settings47 styT sty98 tmpT tmp205) n G w vs x hX hG hz
def EncR {n : Nat} (x : Dc n) (w : World) (e : Ending) (w' : World) : Prop := e = .returned (.tuple #[.string (if chkD x = 0 then mkB (magic ++ dcE n x) else ⟨#[]⟩), .int .i64 (chkD x)]) ∧ Below w.heap.size w w'
theorem size49 : (Tryz.prog.info? 49).map (·.size) = some 11 := by kernel_rfl
set_option maxRecDepth 100000 in
set_option maxHeartbeats 4000000 in
theorem encode21 (n : Nat) (G : Nat → Prop) (w : World) (vs : List Value) (x : Dc n) (hv : dcP n w G vs x) (hG : ∀ b, G b → b < w.heap.size) (hz : (dcE n x).length ≤ 1048576000) : Calls Tryz.prog 21 #[.agg vs.toArray] w (EncR x w) := by
 by_cases hc : chkD x = 0
 case pos =>
  have C := Lib.hid (check_doc n G (w.alloc (.cells vs.toArray 49)) vs x (Rp.below (stb_dc n) hv hG (below_alloc w _)) (fun b hb => Nat.lt_of_lt_of_le (hG b hb) (below_alloc w _).size) hz)
  rw [hc] at C
  have h := EncDoc21 n G w vs x hv hG (by have : magic.length = 4 := rfl; rw [List.length_append]; omega) C.out
  unfold EncR
  rw [hc, if_pos rfl]
  exact h
 case neg =>
  unfold EncR
  rw [if_neg hc]
  obtain ⟨f0, h0, h1, h2, h3, h4, r0, s0, s1, s2, s3, rfl, A0, A1, A2, A3⟩ := hv
  have hR : dcP n w G [f0, h0, h1, h2, h3, h4, r0, s0, s1, s2, s3] x := ⟨_, _, _, _, _, _, _, _, _, _, _, rfl, A0, A1, A2, A3⟩
  obtain ⟨E, hE⟩ : ∃ E, E = chkD x := ⟨_, rfl⟩
  obtain ⟨W, hW⟩ : ∃ W, W = w.alloc (.cells #[f0, h0, h1, h2, h3, h4, r0, s0, s1, s2, s3] 49) := ⟨_, rfl⟩
  have hb : W.heap[w.heap.size]? = some (.cells #[f0, h0, h1, h2, h3, h4, r0, s0, s1, s2, s3] 49 (0, 0)) := by rw [hW]; exact heap_alloc_new w _
  have hB : Below w.heap.size w W := by rw [hW]; exact below_alloc w _
  have C := Lib.hid (check_doc n G W _ x (Rp.below (stb_dc n) hR hG hB) (fun b hb => Nat.lt_of_lt_of_le (hG b hb) hB.size) hz)
  rw [← hE] at C hc ⊢
  obtain ⟨N, hN⟩ : ∃ N, N = w.heap.size := ⟨_, rfl⟩
  rw [← hN] at hb
  have HW := Lib.hid hW
  have HN := Lib.hid hN
  have HB := Lib.hid hB
  have HC := Lib.hid hc
  have f1 : (E == 0) = false := by rw [beq_eq_false_iff_ne]; exact hc
  have f2 : (E != 0) = true := by simp [bne, f1]
  clear A0 A1 A2 A3 hR hE hW hN hB hc hz hG
  go_enter Tryz.func21, Tryz.ntmps21
  go_upto_region 1 with fail
  rw [← HW.out, ← HN.out]
  clear HW
  refine wp_region_seq0 (by rfl) ?_
  simp only [List.map]
  refine sq_load_row 49 _ rfl N 49 #[f0, h0, h1, h2, h3, h4, r0, s0, s1, s2, s3] _ rfl hb Tryz.underlying49 rfl size49 trivial ?_
  simp only [Act.put, PutA, PutZ, PutS]
  refine sq_call 20 #[.agg #[f0, h0, h1, h2, h3, h4, r0, s0, s1, s2, s3]] (by go_simp) ?_
  refine C.out.mono ?_
  rintro e w1 ⟨rfl, hb1⟩
  have HB1 := Lib.hid (HB.out.trans (hb1.mono HB.out.size))
  clear C hb1 hb HB
  refine ⟨_, rfl, trivial, ?_⟩
  simp only [Act.put, PutA, PutZ, PutS]
  refine sq_pure (.int .i64 E) (by go_simp) trivial ?_
  simp only [Act.put, PutA, PutZ, PutS]
  refine sq_done ?_
  go_wp2_with fail
  go_ret2
  exact ⟨rfl, HB1.out⟩
end Go.Proofs.YtmhhcfceikcfbaaGreat
namespace Go.Proofs.YtmhhcfceikcfbaaGreat
open Go.RowKit
theorem chk0 : chkD dc0 = 0 := by kernel_rfl
theorem k_docb (w : World) : Calls Tryz.prog 21 #[.agg #[.slice none 0 0, .slice none 0 0, .int .i64 0, .int .i64 0, .slice none 0 0, .slice none 0 0, .slice none 0 0, .slice none 0 0, .slice none 0 0, .slice none 0 0, .slice none 0 0]] w fun e w' => e = .returned (.tuple #[.string ⟨#[79, 66, 76, 49, 0, 0, 0, 0, 0, 0, 0, 0, 0, 0, 0]⟩, .int .i64 0]) ∧ Below w.heap.size w w' := by
 have h := encode21 0 (fun _ => False) w _ dc0 (dc0_rep w) (fun _ h => h.elim) (by
  have h := congrArg List.length dc0_enc
  have h2 : magic.length = 4 := rfl
  simp only [List.length_append, List.length_cons, List.length_nil] at h
  omega)
 unfold EncR at h
 rw [chk0, if_pos rfl, dc0_enc] at h
 exact h
set_option maxRecDepth 100000 in
set_option maxHeartbeats 4000000 in
theorem known15b (w : World) : Calls Tryz.prog 15 #[] w (TrueC w) := by
 go_enter Tryz.func15, Tryz.ntmps15
 go_wp2_with fail
 refine (k_docb w).mono ?_
 rintro e w1 ⟨rfl, hb1⟩
 have HB1 := Lib.hid hb1
 clear hb1
 go_wp2_with fail
 refine (k_rd w1).mono ?_
 rintro e w2 ⟨rfl, hb2⟩
 have HB2 := Lib.hid (HB1.out.trans (hb2.mono HB1.out.size))
 clear hb2 HB1
 go_wp2_with fail
 refine (k_n1 w2).mono ?_
 rintro e w3 ⟨rfl, hb3⟩
 have HB3 := Lib.hid (HB2.out.trans (hb3.mono HB2.out.size))
 clear hb3 HB2
 go_wp2_with fail
 refine (k_n2 w3).mono ?_
 rintro e w4 ⟨rfl, hb4⟩
 have HB4 := Lib.hid (HB3.out.trans (hb4.mono HB3.out.size))
 clear hb4 HB3
 go_wp2_with fail
 refine (k_it w4).mono ?_
 rintro e w5 ⟨rfl, hb5⟩
 have HB5 := Lib.hid (HB4.out.trans (hb5.mono HB4.out.size))
 clear hb5 HB4
 go_wp2_with fail
 go_ret
 exact ⟨rfl, HB5.out⟩
end Go.Proofs.YtmhhcfceikcfbaaGreat
namespace Go.Proofs.YtmhhcfceikcfbaaGreat
open Go.RowKit Go.WideShapes
theorem cc141 : Tryz.prog.cellsOf 141 = 3 := by kernel_rfl
theorem cc49 : Tryz.prog.cellsOf 49 = 11 := by kernel_rfl
section
variable {H : Type} {enc : TypeId × Value → H} {w : World}
set_option maxRecDepth 100000 in
theorem rdA_141 (f : Nat) : RdA enc w 141 3 revP revE (f + 1) := by
 intro fuel cs y hf hy hb
 obtain ⟨xs, n, rfl, rfl, hl, hlen, hg⟩ := DataW.trod_struct Tryz.underlying141 hy
 rw [cc141] at hl
 obtain ⟨c0, c1, c2, rfl⟩ : ∃ c0 c1 c2, cs = [c0, c1, c2] := by
  match cs, hl with
  | [c0, c1, c2], _ => exact ⟨_, _, _, rfl⟩
 obtain ⟨y0, y1, y2, rfl⟩ : ∃ y0 y1 y2, xs = [y0, y1, y2] := by
  match xs, hlen with
  | [y0, y1, y2], _ => exact ⟨_, _, _, rfl⟩
 simp only [List.map_cons, List.map_nil, Rows.uptoBulk, Rows.uptoBulkAll] at hb ⊢
 have h0 : DataW.trod enc Tryz.prog w 0 (fun _ => true) true n 3 (List.take (Tryz.prog.cellsOf 3) (List.drop 0 [c0, c1, c2])) = some y0 := hg 0 _ rfl
 rw [cc3] at h0
 obtain ⟨_, x0, r0, b0⟩ := (rdA_int n) n [c0] y0 (by omega) h0 (by omega)
 have h1 : DataW.trod enc Tryz.prog w 0 (fun _ => true) true n 9 (List.take (Tryz.prog.cellsOf 9) (List.drop 1 [c0, c1, c2])) = some y1 := hg 1 _ rfl
 rw [cc9] at h1
 obtain ⟨_, x1, r1, b1⟩ := (rdA_str n) n [c1] y1 (by omega) h1 (by omega)
 have h2 : DataW.trod enc Tryz.prog w 0 (fun _ => true) true n 3 (List.take (Tryz.prog.cellsOf 3) (List.drop 2 [c0, c1, c2])) = some y2 := hg 2 _ rfl
 rw [cc3] at h2
 obtain ⟨_, x2, r2, b2⟩ := (rdA_int n) n [c2] y2 (by omega) h2 (by omega)
 obtain ⟨q0, i0⟩ := r0
 injection q0 with q0 _
 obtain ⟨q1, i1⟩ := r1
 injection q1 with q1 _
 obtain ⟨q2, i2⟩ := r2
 injection q2 with q2 _
 clear hg hl hlen hy h0 h1 h2
 subst q0
 subst q1
 subst q2
 refine ⟨rfl, (x0, x1, x2), ⟨rfl, i0, i1, i2⟩, ?_⟩
 simp only [revE, seqE, List.length_append] at *
 omega
theorem rdA_41 (f : Nat) : RdA enc w 41 1 (LsP revP 3) (listE revE) f := rdA_slice' Tryz.underlying41 cc141 (by decide) ((rdA_141 f).le (Nat.le_succ _))
set_option maxRecDepth 100000 in
theorem rdA_49 (f : Nat) : RdA enc w 49 11 (dcP f) (dcE f) (f + 1) := by
 intro fuel cs y hf hy hb
 obtain ⟨xs, n, rfl, rfl, hl, hlen, hg⟩ := DataW.trod_struct Tryz.underlying49 hy
 rw [cc49] at hl
 obtain ⟨c0, c1, c2, c3, c4, c5, c6, c7, c8, c9, c10, rfl⟩ : ∃ c0 c1 c2 c3 c4 c5 c6 c7 c8 c9 c10, cs = [c0, c1, c2, c3, c4, c5, c6, c7, c8, c9, c10] := by
  match cs, hl with
  | [c0, c1, c2, c3, c4, c5, c6, c7, c8, c9, c10], _ => exact ⟨_, _, _, _, _, _, _, _, _, _, _, rfl⟩
 obtain ⟨y0, y1, y2, y3, rfl⟩ : ∃ y0 y1 y2 y3, xs = [y0, y1, y2, y3] := by
  match xs, hlen with
  | [y0, y1, y2, y3], _ => exact ⟨_, _, _, _, rfl⟩
 simp only [List.map_cons, List.map_nil, Rows.uptoBulk, Rows.uptoBulkAll] at hb ⊢
 have h0 : DataW.trod enc Tryz.prog w 0 (fun _ => true) true n 33 (List.take (Tryz.prog.cellsOf 33) (List.drop 0 [c0, c1, c2, c3, c4, c5, c6, c7, c8, c9, c10])) = some y0 := hg 0 _ rfl
 rw [cc33] at h0
 obtain ⟨_, x0, r0, b0⟩ := ((rdA_33n f).le (show n ≤ f by omega)) n [c0] y0 (by omega) h0 (by omega)
 have h1 : DataW.trod enc Tryz.prog w 0 (fun _ => true) true n 40 (List.take (Tryz.prog.cellsOf 40) (List.drop 1 [c0, c1, c2, c3, c4, c5, c6, c7, c8, c9, c10])) = some y1 := hg 1 _ rfl
 rw [cc40] at h1
 obtain ⟨_, x1, r1, b1⟩ := ((rdA_40 n).le (Nat.le_succ _)) n [c1, c2, c3, c4, c5] y1 (by omega) h1 (by omega)
 have h2 : DataW.trod enc Tryz.prog w 0 (fun _ => true) true n 41 (List.take (Tryz.prog.cellsOf 41) (List.drop 6 [c0, c1, c2, c3, c4, c5, c6, c7, c8, c9, c10])) = some y2 := hg 2 _ rfl
 rw [cc41] at h2
 obtain ⟨_, x2, r2, b2⟩ := (rdA_41 n) n [c6] y2 (by omega) h2 (by omega)
 have h3 : DataW.trod enc Tryz.prog w 0 (fun _ => true) true n 47 (List.take (Tryz.prog.cellsOf 47) (List.drop 7 [c0, c1, c2, c3, c4, c5, c6, c7, c8, c9, c10])) = some y3 := hg 3 _ rfl
 rw [cc47] at h3
 obtain ⟨_, x3, r3, b3⟩ := ((rdA_47 n).le (Nat.le_succ _)) n [c7, c8, c9, c10] y3 (by omega) h3 (by omega)
 obtain ⟨v0, q0, l0⟩ := r0
 injection q0 with q0 _
 obtain ⟨v2, q2, l2⟩ := r2
 injection q2 with q2 _
 clear hg hl hlen hy h0 h1 h2 h3
 subst q0
 subst q2
 refine ⟨rfl, (x0, x1, x2, x3), ⟨_, _, _, _, _, _, _, _, _, _, _, rfl, l0, r1, l2, r3⟩, ?_⟩
 simp only [dcE, seqE, List.length_append] at *
 omega
theorem revE_ne (x : Rev) : revE x ≠ [] := by
 intro h
 have h2 := congrArg List.length h
 have h3 := List.length_pos_iff.2 (encN_ne x.1)
 simp only [revE, seqE, List.length_append, List.length_nil] at h2
 omega
theorem dom_rev : Dom revP revD := fun _ _ _ _ h => h.2
def dcD (n : Nat) (x : Dc n) : Prop := Li (itD n) x.1 ∧ hdD x.2.1 ∧ Li revD x.2.2.1 ∧ stgD x.2.2.2
theorem dom_dc (n : Nat) : Dom (dcP n) (dcD n) := by
 rintro w G vs x ⟨_, _, _, _, _, _, _, _, _, _, _, _, h1, h2, h3, h4⟩
 exact ⟨dom_slv (dom_it n) h1, dom_hd _ _ _ _ h2, dom_slv dom_rev h3, dom_stg _ _ _ _ h4⟩
theorem fit_dcD (n : Nat) : Fit (dcE n) (dcR n) (dcD n) := (fit_its n).seq (fit_hd.seq ((fit_rev.list revE_ne).seq fit_stg))
theorem byt_dc (n : Nat) : Byt (dcE n) := (byt_it n).list.seq (byt_hd.seq (byt_rev.list.seq byt_stg))
set_option maxRecDepth 100000 in
/-- An argument: a document. The depth may be chosen great. -/
theorem doc_of_arg {W : World} {r : Reach} {b0 : Nat} {v : Value} {d : DataW H} {p : List MemPlace} (hv : Value.okWide Tryz.prog W r b0 49 v) (h : DataW.Trod enc Tryz.prog W 0 (fun _ => true) true 49 v d p) (hb : Rows.uptoBulk d ≤ 1048576) :
  ∃ m, ∀ n, m ≤ n → ∃ (vs : List Value) (x : Dc n), v = .agg vs.toArray ∧ vs.length = 11 ∧ dcP n W (fun b => b < W.heap.size) vs x ∧ (dcE n x).length ≤ 10485760 := by
 obtain ⟨cs, rfl, _⟩ := okWide_struct Tryz.underlying49 hv
 obtain ⟨fuel, hf⟩ := h
 refine ⟨fuel, fun n hn => ?_⟩
 obtain ⟨h1, x, h2, h3⟩ := rdA_49 (enc := enc) (w := W) n fuel _ _ (by omega) hf hb
 exact ⟨cs.toList, x, by simp, h1, h2, by simp only at h3; omega⟩
end
end Go.Proofs.YtmhhcfceikcfbaaGreat
