/- Walks: Put; the law ArchivePuts. -/
import Derived.Test.YtdnaifkcogadkaaO2
import Derived.Test.YtdnaifkcogadkaaRemoves
namespace Go.Proofs.Ytdnaifkcogadkaa
open Go.RowKit

/-- What Put answers. -/
def putPost (s : ByteArray) (p : Prt) (t : ByteArray) (n : Int) : Prop :=
  if decE (bytesN s) ≠ 0 then t = ⟨#[]⟩ ∧ n = decE (bytesN s) else if chkP p ≠ 0 then t = ⟨#[]⟩ ∧ n = chkP p else encPost (restP p.1 (decP (bytesN s)) ++ [p]) t n

set_option maxRecDepth 100000 in
set_option maxHeartbeats 2000000 in
theorem put_lib (s : ByteArray) (p0 p1 : ByteArray) (w : World) (hs : s.size ≤ 1048576000) (h0 : p0.size ≤ 1048576) (h1 : p1.size ≤ 4194304) :
    Calls Try.prog 32 #[.string s, .agg #[.string p0, .string p1]] w fun e w' => ∃ (t : ByteArray) (n : Int), e = .returned (.tuple #[.string t, .int .i64 n]) ∧ putPost s (p0, p1) t n ∧ Below w.heap.size w w' := by
  obtain ⟨i0, hi, hz0, hz1, hz2⟩ := info_parts info38
  have hB0 : BoxP (w.alloc (.cells #[.string p0, .string p1] 38)) w.heap.size p0 p1 := heap_alloc_new w _
  have hb0 := (Below.refl w.heap.size w).alloc (Nat.le_refl _) (.cells #[.string p0, .string p1] 38)
  go_enter Try.func32, Try.ntmps32
  go_wp2_with fail
  refine (decode_any s _ hs).mono ?_
  rintro e w1 ⟨v, n, rfl, ⟨hn, hown⟩, hk1⟩
  have hB1 := hB0.over hk1
  have hb1 := hb0.trans (hk1.mono hb0.size)
  have hzs : w.heap.size + 1 ≤ w1.heap.size := by have := hk1.size; simpa using this
  have hz0' : (w.alloc (.cells #[.string p0, .string p1] 38)).heap.size = w.heap.size + 1 := by simp
  rw [hz0'] at hown
  clear hB0 hk1 hb0 hz0'
  by_cases he : decE (bytesN s) = 0
  case neg =>
    have hz0 : n ≠ 0 := by rw [hn]; exact he
    have hzb : (n == 0) = false := by simpa using hz0
    have hzn : (n != 0) = true := by simpa using hz0
    have HR : Hid (putPost s (p0, p1) ⟨#[]⟩ n) := Lib.hid (by unfold putPost; rw [if_pos he]; exact ⟨rfl, hn⟩)
    clear hn he hown hz0
    go_wp2_with fail
    go_ret2
    exact ⟨_, _, rfl, HR.out, hb1⟩
  rw [he] at hn
  subst hn
  have HE := Lib.hid he
  clear he
  have c0 := hB1.c0
  have c1 := hB1.c1
  have HB1 := Lib.hid hB1
  clear hB1
  have HCK := Lib.hid (check_any p0 p1 w1 (by omega) (by omega))
  by_cases hck : chkP (p0, p1) = 0
  case neg =>
    obtain ⟨z, hz⟩ : ∃ z, z = chkP (p0, p1) := ⟨_, rfl⟩
    have hz0 : z ≠ 0 := by rw [hz]; exact hck
    have hzn : (z != 0) = true := by simpa using hz0
    have HR : Hid (putPost s (p0, p1) ⟨#[]⟩ z) := Lib.hid (by unfold putPost; rw [if_neg (by rw [HE.out]; decide), if_pos hck]; exact ⟨rfl, hz⟩)
    rw [← hz] at HCK
    clear hz hck hown hz0
    go_wp2_with fail
    refine HCK.out.mono ?_
    rintro e w2 ⟨rfl, hk2⟩
    go_wp2_with fail
    go_ret2
    exact ⟨_, _, rfl, HR.out, hb1.trans (hk2.mono hb1.size)⟩
  rw [hck] at HCK
  have HK := Lib.hid hck
  clear hck
  have HO := Lib.hid hown
  clear hown
  go_wp2_with fail
  refine HCK.out.mono ?_
  rintro e w2 ⟨rfl, hk2⟩
  have hO2 := HO.out.over hk2
  have hB2 := HB1.out.over hk2
  have hb2 := hb1.trans (hk2.mono hb1.size)
  have hzs2 : w.heap.size + 1 ≤ w2.heap.size := Nat.le_trans hzs hk2.size
  clear HO HB1 hk2 hb1 c0 c1
  have hSm := Lib.hid (decP_small s)
  have hD64 : (decP (bytesN s)).length ≤ 64 := by
    by_cases h : decE (bytesN s) = 0
    · rw [decP_ok h, List.length_map]; exact dirX_len _
    · rw [decP_bad h]; simp
  obtain ⟨P, hP⟩ : ∃ P, P = decP (bytesN s) := ⟨_, rfl⟩
  have HP := Lib.hid hP
  rw [← hP] at hO2 hSm hD64
  clear hP
  have HDel := Lib.hid (delete49 v (w.heap.size + 1) w.heap.size P p0 w2 hO2 hzs2 (by omega) (Lib.hid (fun W x hb => clo49 x p0 p1 w.heap.size W ((hb.block _ (Nat.lt_succ_self _)).trans hB2))))
  have HB2 := Lib.hid hB2
  clear hO2 hB2
  go_wp2_with fail
  refine HDel.out.mono ?_
  rintro e w3 ⟨v3, rfl, hown3, hk3⟩
  have hb3 : Below w.heap.size w w3 := hb2.trans (hk3.mono (Nat.le_succ _))
  have hB3 : BoxP w3 w.heap.size p0 p1 := (hk3.block _ (Nat.lt_succ_self _)).trans HB2.out
  have hO3 : OwnP w3 (w.heap.size + 1) v3 (restP p0 P) := hown3
  have hkr : (restP p0 P).length ≤ 64 := Nat.le_trans (restP_len p0 P) hD64
  have hSn : Hid (Small (restP p0 P ++ [(p0, p1)])) := Lib.hid ⟨by rw [List.length_append, List.length_singleton]; omega, fun x hx => by
    rcases List.mem_append.1 hx with hx | hx
    · exact (restP_small (nm := p0) hSm.out).2 x hx
    · rw [List.mem_singleton.1 hx]; exact ⟨h0, h1⟩⟩
  have HR : Hid (∀ t n, encPost (restP p0 P ++ [(p0, p1)]) t n → putPost s (p0, p1) t n) := Lib.hid (fun t n h => by unfold putPost; rw [if_neg (by rw [HE.out]; decide), if_neg (by rw [HK.out]; decide), ← HP.out]; exact h)
  obtain ⟨R, hR⟩ : ∃ R, R = restP p0 P := ⟨_, rfl⟩
  rw [← hR] at hO3 hkr hSn HR
  have c0 := hB3.c0
  have c1 := hB3.c1
  have hzs3 : w.heap.size + 1 ≤ w3.heap.size := Nat.le_trans hzs2 hk3.size
  clear hR hown3 HDel hk3 hb2 hB3
  go_wp2_with (at_builtin; refine wpList_push _ rfl _ _ 22 rfl (w.heap.size + 1) 38 i0 _ 2 32 Try.underlying22 hi hz0 hz1 hz2 rfl (by decide) encP_length encP_eachR _ R rfl (Own.alloc hO3 _) w3.heap.size 1 (p0, p1) rfl (cells_new w3 (encP (p0, p1)) 38) (by omega) (by omega) (by simp; omega) ?_; intro v4 w4 hown4 hg4)
  have hb4 : Below w.heap.size w w4 := (hb3.alloc hb3.size (.cells #[.string p0, .string p1] 38)).trans ((Own.belowG (Own.alloc hO3 (.cells #[.string p0, .string p1] 38)) (by simp; omega) hg4).mono (Nat.le_succ _))
  clear hb3 hO3
  refine (encode_any v4 (R ++ [(p0, p1)]) w4 (hown4.sl encP_length) hSn.out).mono ?_
  rintro e w5 ⟨t, n, rfl, hp, hk5⟩
  have HP5 := Lib.hid (HR.out _ _ hp)
  clear hp
  go_wp2_with fail
  go_ret2
  exact ⟨_, _, rfl, HP5.out, hb4.trans (hk5.mono hb4.size)⟩

theorem few_one (x : Prt) : fewL [x] = [cutP x] := rfl
theorem errE_one (p : Prt) : errE [p] = chkP p := by
  unfold errE
  rw [if_neg (by simp)]
  unfold chkAll
  by_cases h : chkP p ≠ 0
  · rw [if_pos h]
  · rw [if_neg h]
    have h0 : chkP p = 0 := by simpa using h
    rw [h0]
    rfl
theorem decE_empty : decE (bytesN ⟨#[]⟩) = 34 := by kernel_rfl
theorem Good.add {l : List Prt} (h : Good l) {p : Prt} (hp : chkP p = 0) (hl : (restP p.1 l).length < 64) : Good (restP p.1 l ++ [p]) := by
  have hr := h.rest p.1
  refine ⟨by rw [List.length_append, List.length_singleton]; omega, fun x hx => ?_, ?_⟩
  · rcases List.mem_append.1 hx with hx | hx
    · exact hr.each x hx
    · rw [List.mem_singleton.1 hx]; exact (chkP_zero p).1 hp
  · unfold Apart
    rw [List.map_append, List.nodup_append]
    refine ⟨hr.apart, by simp, fun a ha b hb => ?_⟩
    obtain ⟨x, hx, rfl⟩ := List.mem_map.1 ha
    have hb' : b = p.1 := by simpa using hb
    have h2 := (List.mem_filter.1 hx).2
    intro e
    rw [hb'] at e
    have : prN p.1 x = true := (prN_iff _ _).2 e
    rw [this] at h2
    cases h2
theorem open_of {l q : List Prt} {t : ByteArray} {p : Prt} {d : ByteArray} {n : Int} (hA : ArcOf l t q) (hp : p ∈ q) (ho : openPost t p.1 d n) : d = p.2 ∧ n = 0 := by
  have hb := hA.back
  unfold openPost at ho
  rw [if_neg (by rw [hb.dir]; decide)] at ho
  have hdec := hb.dec
  rw [decE_all hb.dir] at hdec
  have hall : (dirX (bytesN t)).all (datOk (bytesN t)) = true := by
    by_cases h : (dirX (bytesN t)).all (datOk (bytesN t)) = true
    · exact h
    · rw [if_neg h] at hdec; cases hdec
  have hparts := hb.parts
  rw [decP_ok hb.dec] at hparts
  rcases ho with ⟨x, hx, hxn, hd⟩ | ⟨hno, _, _⟩
  · have hmem : partOf (bytesN t) x ∈ q := by rw [← hparts]; exact List.mem_map_of_mem hx
    have heq := apart_eq hA.good.apart hmem hp (by rw [partOf_data]; exact hxn)
    rw [partOf_data] at heq
    unfold datPost at hd
    rw [if_pos (List.all_eq_true.1 hall x hx)] at hd
    exact ⟨hd.1.trans (congrArg Prod.snd heq), hd.2⟩
  · exfalso
    have hp2 := hp
    rw [← hparts] at hp2
    obtain ⟨x, hx, hxp⟩ := List.mem_map.1 hp2
    rw [partOf_data] at hxp
    exact hno x hx (congrArg Prod.fst hxp)
theorem encPost_limit {l : List Prt} {t : ByteArray} {n : Int} (h : 64 < l.length) (hp : encPost l t n) : t = ⟨#[]⟩ ∧ n = 9 := by
  have he : errE l = 9 := by unfold errE; rw [if_pos h]
  exact ⟨hp.2.1 (by rw [he]; decide), hp.1.trans he⟩

set_option maxRecDepth 100000 in
set_option maxHeartbeats 8000000 in
theorem puts_any (v : Value) (l : List Prt) (x0 x1 : ByteArray) (w : World) (h : Parts w w.heap.size v l) :
    Calls Try.prog 12 #[v, .agg #[.string x0, .string x1]] w fun e w' => e = .returned (.bool true) ∧ Below w.heap.size w w' := by
  obtain ⟨i0, hi, hz0, hz1, hz2⟩ := info_parts info38
  have hB0 : BoxP (w.alloc (.cells #[.string x0, .string x1] 38)) w.heap.size x0 x1 := heap_alloc_new w _
  have hb0 := (Below.refl w.heap.size w).alloc (Nat.le_refl _) (.cells #[.string x0, .string x1] 38)
  have hP0 := Sl.over h hb0
  clear h
  go_enter Try.func12, Try.ntmps12
  go_wp2_with fail
  refine (few_any v l _ hP0).mono ?_
  rintro e w1 ⟨v1, rfl, hown, hk1⟩
  have hP1 := hown.sl encP_length
  have hSm := Lib.hid (few_small l)
  have h70 : (fewL l).length ≤ 70 := by unfold fewL; rw [List.length_map, List.length_take]; omega
  obtain ⟨f, hf⟩ : ∃ f, f = fewL l := ⟨_, rfl⟩
  rw [← hf] at hP1 hSm h70
  have hB1 := hB0.over hk1
  have hb1 := hb0.trans (hk1.mono hb0.size)
  clear hown hf hB0 hb0 hk1 hP0
  have c0 := hB1.c0
  have c1 := hB1.c1
  have hP1a := hP1.over ((Below.refl _ w1).alloc (Nat.le_refl _) (.cells #[.string x0, .string x1] 38))
  have hb1a := hb1.alloc hb1.size (.cells #[.string x0, .string x1] 38)
  have hone : Parts (w1.alloc (.cells #[.string x0, .string x1] 38)) (w1.alloc (.cells #[.string x0, .string x1] 38)).heap.size (.slice (some ⟨w1.heap.size, 0, none⟩) 1 1) [(x0, x1)] := Sl.one (enc := encP) w1 (x0, x1) 38 w1.heap.size rfl _ (by simp)
  have HF1 := Lib.hid (few_any _ [(x0, x1)] _ hone)
  clear hone hP1 hb1 hB1
  go_wp2_with fail
  refine HF1.out.mono ?_
  rintro e w2 ⟨v2, rfl, hown2, hk2⟩
  have hP2 := hP1a.over hk2
  have hb2 := hb1a.trans (hk2.mono hb1a.size)
  rw [few_one] at hown2
  obtain ⟨p0, hp0⟩ : ∃ p, p = cutS 60 x0 := ⟨_, rfl⟩
  obtain ⟨p1, hp1⟩ : ∃ p, p = cutS 300 x1 := ⟨_, rfl⟩
  have hs0 : p0.size ≤ 60 := by rw [hp0]; simp only [cutS, ByteArray.size_extract]; omega
  have hs1 : p1.size ≤ 300 := by rw [hp1]; simp only [cutS, ByteArray.size_extract]; omega
  have hcp : cutP (x0, x1) = (p0, p1) := by rw [hp0, hp1]; rfl
  rw [hcp] at hown2
  obtain ⟨A2, cc2, rfl, _, _⟩ := Own.shape hown2
  obtain ⟨g2, hA2, _, _, d0, d1, _⟩ := OwnP.get hown2 0 (p0, p1) rfl
  subst hA2
  simp only [Nat.zero_mul, Nat.zero_add, List.length_singleton] at d0 d1 ⊢
  have hBp : BoxP (w2.alloc (.cells #[.string p0, .string p1] 38)) w2.heap.size p0 p1 := heap_alloc_new w2 _
  have hP2a := hP2.over ((Below.refl _ w2).alloc (Nat.le_refl _) (.cells #[.string p0, .string p1] 38))
  have hb2a := hb2.alloc hb2.size (.cells #[.string p0, .string p1] 38)
  have HBp := Lib.hid hBp
  clear hp0 hp1 hcp hown2 HF1 hk2 hP1a hb1a hP2 hb2 hBp c0 c1
  go_wp2_with fail
  refine (known_any _).mono ?_
  rintro e w3 ⟨rfl, hk3⟩
  have hP3 := hP2a.over hk3
  have hb3 := hb2a.trans (hk3.mono hb2a.size)
  have HB3 := Lib.hid (HBp.out.over hk3)
  clear hP2a hb2a HBp hk3 d0 d1
  obtain ⟨B, hB⟩ : ∃ B, B = w2.heap.size := ⟨_, rfl⟩
  rw [← hB] at HB3 ⊢
  clear hB
  go_wp2_with fail
  refine (encode_ref v1 f w3 hP3 hSm.out).mono ?_
  rintro e w4 ⟨s, n, rfl, hp, hk4⟩
  have hP4 := hP3.over hk4
  have hb4 := hb3.trans (hk4.mono hb3.size)
  have HB4 := Lib.hid (HB3.out.over hk4)
  clear hP3 hb3 HB3 hk4
  have c0 := HB4.out.c0
  have c1 := HB4.out.c1
  by_cases he : errE f = 0
  case neg =>
    have hs := hp.2.1 he
    have hn : n ≠ 0 := by rw [hp.1]; exact he
    have hn1 : (n != 0) = true := by simpa using hn
    clear hp he hn
    subst hs
    go_wp2_with fail
    refine (put_lib ⟨#[]⟩ p0 p1 w4 (by decide) (by omega) (by omega)).mono ?_
    rintro e w5 ⟨t, nt, rfl, hpt, hk5⟩
    unfold putPost at hpt
    rw [decE_empty, if_pos (by decide)] at hpt
    obtain ⟨rfl, rfl⟩ := hpt
    have hb5 := hb4.trans (hk5.mono hb4.size)
    go_wp2_with fail
    go_ret
    exact ⟨rfl, hb5⟩
  obtain ⟨q, hA⟩ := hp.arc he
  have hn : n = 0 := hp.1.trans he
  have HA := Lib.hid hA
  have hsz := hA.size
  have HG := Lib.hid ((good_iff f).1 he)
  clear hp he hA
  subst hn
  go_wp2_with fail
  refine (put_lib s p0 p1 w4 (by omega) (by omega) (by omega)).mono ?_
  rintro e w5 ⟨t, nt, rfl, hpt, hk5⟩
  unfold putPost at hpt
  rw [if_neg (by rw [HA.out.back.dec]; decide), HA.out.back.parts] at hpt
  have HPT := Lib.hid hpt
  have hP5 := hP4.over hk5
  have hb5 := hb4.trans (hk5.mono hb4.size)
  have HB5 := Lib.hid (HB4.out.over hk5)
  clear hpt hP4 hb4 HB4 hk5 c0 c1
  have c0 := HB5.out.c0
  go_wp2_with fail
  refine (without_any v1 f p0 w5 hP5 (by omega)).mono ?_
  rintro e w6 ⟨vr, rfl, hown6, hk6⟩
  have hb6 := hb5.trans (hk6.mono hb5.size)
  have HB6 := Lib.hid (HB5.out.over hk6)
  have HZ56 : Hid (w5.heap.size ≤ w6.heap.size) := Lib.hid hk6.size
  have HZ5 : Hid (w.heap.size ≤ w5.heap.size) := Lib.hid hb5.size
  have HBB : Hid (B < w5.heap.size) := Lib.hid (lt_of_block HB5.out)
  have hkr : (restP p0 f).length ≤ 70 := Nat.le_trans (restP_len p0 f) h70
  obtain ⟨R, hR⟩ : ∃ R, R = restP p0 f := ⟨_, rfl⟩
  have HRR := Lib.hid hR
  obtain ⟨fb, hfb⟩ : ∃ b, b = f.any (prN p0) := ⟨_, rfl⟩
  rw [← hR] at hown6 hkr
  rw [← hfb]
  clear hR hfb hP5 hb5 HB5 hk6 c0
  obtain ⟨A6, c6, rfl, hlc6, hcm6⟩ := Own.shape hown6
  have c0 := HB6.out.c0
  have c1 := HB6.out.c1
  have hone : Parts (w6.alloc (.cells #[.string p0, .string p1] 38)) (w6.alloc (.cells #[.string p0, .string p1] 38)).heap.size (.slice (some ⟨w6.heap.size, 0, none⟩) 1 1) [(p0, p1)] := Sl.one (enc := encP) w6 (p0, p1) 38 w6.heap.size rfl _ (by simp)
  have HCK := Lib.hid (checked_any _ [(p0, p1)] _ hone ⟨by simp, fun y hy => by rw [List.mem_singleton.1 hy]; exact ⟨by show p0.size ≤ _; omega, by show p1.size ≤ _; omega⟩⟩)
  rw [errE_one] at HCK
  have hO6 := Own.alloc hown6 (.cells #[.string p0, .string p1] 38)
  have hb6a := hb6.alloc hb6.size (.cells #[.string p0, .string p1] 38)
  have HB6a := Lib.hid (HB6.out.alloc (.cells #[.string p0, .string p1] 38))
  clear hone hown6 hb6 HB6
  by_cases hck : chkP (p0, p1) = 0
  case neg =>
    obtain ⟨z, hz⟩ : ∃ z, z = chkP (p0, p1) := ⟨_, rfl⟩
    have hzz : z ≠ 0 := by rw [hz]; exact hck
    have hzb : (z == 0) = false := by simpa using hzz
    have hzn : (z != 0) = true := by simpa using hzz
    have hpt := HPT.out
    rw [if_pos hck, ← hz] at hpt
    obtain ⟨rfl, rfl⟩ := hpt
    rw [← hz] at HCK
    have hz9 : (nt == nt) = true := by simp
    clear hz hck hzz HPT
    go_wp2_with fail
    refine HCK.out.mono ?_
    rintro e w7 ⟨rfl, hk7⟩
    have hb7 := hb6a.trans (hk7.mono hb6a.size)
    go_wp2_with fail
    go_ret
    exact ⟨rfl, hb7⟩
  rw [hck] at HCK
  have hpt := HPT.out
  rw [if_neg (by rw [hck]; decide)] at hpt
  have HPT2 := Lib.hid hpt
  have HK := Lib.hid hck
  have hperm : (restP p0 q ++ [(p0, p1)]).Perm (R ++ [(p0, p1)]) := by rw [HRR.out]; exact List.Perm.append_right _ (List.Perm.filter _ HA.out.perm)
  have HPM := Lib.hid hperm
  clear hck hpt HPT hperm
  by_cases h64 : R.length = 64
  · have hl65 : 64 < (restP p0 q ++ [(p0, p1)]).length := by rw [HPM.out.length_eq, List.length_append, List.length_singleton, h64]; decide
    obtain ⟨rfl, rfl⟩ := encPost_limit hl65 HPT2.out
    have hq : ((R.length : Int) == 64) = true := by rw [h64]; rfl
    clear hl65 HPT2 h64
    go_wp2_with fail
    refine HCK.out.mono ?_
    rintro e w7 ⟨rfl, hk7⟩
    have hb7 := hb6a.trans (hk7.mono hb6a.size)
    go_wp2_with fail
    go_ret
    exact ⟨rfl, hb7⟩
  · have hq : ((R.length : Int) == 64) = false := by rw [beq_eq_false_iff_ne]; omega
    have hgood : Good (R ++ [(p0, p1)]) := by
      have h1 := HG.out.len
      have h2 := restP_len p0 f
      rw [← HRR.out] at h2
      have := HG.out.add (p := (p0, p1)) HK.out (by rw [← HRR.out]; omega)
      rw [← HRR.out] at this
      exact this
    have HGD := Lib.hid hgood
    have hSn : Hid (Small (R ++ [(p0, p1)])) := Lib.hid ⟨by rw [List.length_append, List.length_singleton]; omega, fun y hy => by
      have h3 := hgood.each y hy
      have h4 := hgood.name hy
      exact ⟨by omega, by omega⟩⟩
    clear h64 hgood
    go_wp2_with fail
    refine HCK.out.mono ?_
    rintro e w7 ⟨rfl, hk7⟩
    have hO7 := hO6.over hk7
    have hb7 := hb6a.trans (hk7.mono hb6a.size)
    have HB7 := Lib.hid (HB6a.out.over hk7)
    have hbz7 : w5.heap.size ≤ w7.heap.size := by have h1 := hk7.size; have h3 := HZ56.out; simp at h1; omega
    clear hO6 hb6a HB6a hk7 HCK c0 c1
    have c0 := HB7.out.c0
    have c1 := HB7.out.c1
    go_wp2_with (at_builtin; refine wpList_push _ rfl _ _ 22 rfl w5.heap.size 38 i0 _ 2 32 Try.underlying22 hi hz0 hz1 hz2 rfl (by decide) encP_length encP_eachR _ R rfl (Own.alloc hO7 _) w7.heap.size 1 (p0, p1) rfl (cells_new w7 (encP (p0, p1)) 38) (by omega) (by omega) (by simp; omega) ?_; intro v8 w8 hown8 hg8)
    have hb78 : Below w5.heap.size (w7.alloc (.cells #[.string p0, .string p1] 38)) w8 := Own.belowG (Own.alloc hO7 (.cells #[.string p0, .string p1] 38)) (by simp; omega) hg8
    have hb8 : Below w.heap.size w w8 := (hb7.alloc hb7.size (.cells #[.string p0, .string p1] 38)).trans (hb78.mono HZ5.out)
    have HB8 : Hid (BoxP w8 B p0 p1) := Lib.hid ((hb78.block _ HBB.out).trans (HB7.out.alloc (.cells #[.string p0, .string p1] 38)))
    clear hO7 hb7 HB7 hb78 hg8 c0 c1
    refine (encode_ref v8 (R ++ [(p0, p1)]) w8 (hown8.sl encP_length) hSn.out).mono ?_
    rintro e w9 ⟨u, nu, rfl, hpu, hk9⟩
    have hb9 := hb8.trans (hk9.mono hb8.size)
    have HB9 := Lib.hid (HB8.out.over hk9)
    obtain ⟨q2, hA2⟩ := hpu.arc ((good_iff _).2 HGD.out)
    obtain ⟨ht, _, hnt⟩ := encPost_two HGD.out HPM.out hpu HPT2.out
    have HA2 := Lib.hid hA2
    have hsu := hA2.size
    clear hown8 hb8 HB8 hk9 hpu HPT2 hA2
    subst ht hnt
    have c0 := HB9.out.c0
    go_wp2_with fail
    refine (open_any t p0 w9 (by omega)).mono ?_
    rintro e w10 ⟨d, nd, rfl, hop, hk10⟩
    have hb10 := hb9.trans (hk10.mono hb9.size)
    have c1 := (HB9.out.over hk10).c1
    obtain ⟨hd, hnd⟩ := open_of (p := (p0, p1)) HA2.out (HA2.out.perm.mem_iff.2 (by simp)) hop
    have hd' : d = p1 := hd
    clear hop hd c0 hb9 HB9 hk10
    subst hd' hnd
    go_wp2_with fail
    go_ret
    exact ⟨rfl, hb10⟩
end Go.Proofs.Ytdnaifkcogadkaa
