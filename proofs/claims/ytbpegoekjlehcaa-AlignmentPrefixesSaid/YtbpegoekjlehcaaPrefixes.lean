/- Walk: AlignmentPrefixes. -/
import Derived.Test.YtbpegoekjlehcaaL1
import Derived.Test.YtbpegoekjlehcaaLib3
import Derived.Test.YtbpegoekjlehcaaPre
import Derived.Deep.RegionHeld3
namespace Go.Proofs.Ytbpegoekjlehcaa
open Go.RowKit

theorem ones_take {l : List Tok} {k : Nat} (h : k < l.length) (h2 : k < 20) : (ones l).take (k + 1) = (ones l).take k ++ [(l[k].1, 1)] := by
  have hk : k < (ones l).length := by unfold ones; rw [List.length_map, List.length_take]; omega
  rw [List.take_succ_eq_append_getElem hk]
  simp [ones]
theorem ones_all {l : List Tok} {k : Nat} (h : ¬ (k < l.length ∧ k < 20)) : (ones l).take k = ones l := by
  apply List.take_of_length_le
  unfold ones; rw [List.length_map, List.length_take]; omega

def pk {α : Type} (x0 x1 x2 x3 : α) : Nat → α
  | 0 => x0
  | 1 => x1
  | 2 => x2
  | _ => x3
/-- The array of the four lists: those before i are done. -/
def Arr (w0 w : World) (B G : Nat) (v : Nat → Value) (L : Nat → List Tok) (i : Nat) : Prop :=
  ∃ c : Nat → Value, w.rowIs G 49 4 c ∧ (∀ j, j < i → OwnT w B (c j) (ones (L j))) ∧ (∀ j, i ≤ j → c j = v j) ∧ Below B w0 w
theorem Arr.put {w0 w w2 : World} {B G : Nat} {v : Nat → Value} {L : Nat → List Tok} {i : Nat} (h : Arr w0 w B G v L i) (hBG : B ≤ G) (hBw : B ≤ w.heap.size) (hb : Below w.heap.size w w2) {l : Value} (hl : OwnT w2 w.heap.size l (ones (L i))) :
    Arr w0 (w2.setCell ⟨G, i, none⟩ l) B G v L (i + 1) := by
  obtain ⟨c, h1, h2, h3, h4⟩ := h
  have h1' := h1.of_block (hb.block _ h1.lt)
  obtain ⟨cs, hcs⟩ := rowIs_get h1'
  refine ⟨fun j => if j = i then l else c j, h1'.set i l, fun j hj => ?_, fun j hj => ?_, (h4.trans (hb.mono hBw)).setCell hBG l⟩
  all_goals dsimp only
  · by_cases e : j = i
    · subst e
      rw [if_pos rfl]
      exact (hl.setFar hcs (by decide) _ _).lower hBw
    · rw [if_neg e]
      exact ((h2 j (by omega)).over hb).setFar hcs (by decide) _ _
  · rw [if_neg (by omega)]
    exact h3 j (by omega)

set_option maxRecDepth 100000 in
set_option maxHeartbeats 4000000 in
theorem prefixes_any (va vb vf vr : Value) (a b f r : List Tok) (w : World) (ha : Toks w w.heap.size va a) (hb : Toks w w.heap.size vb b) (hf : Toks w w.heap.size vf f) (hr : Toks w w.heap.size vr r) :
    Calls Try.prog 7 #[.agg #[va, vb], vf, vr] w fun e w' => e = .returned (.bool true) ∧ Below w.heap.size w w' := by
  have HK : Hid (∀ j, ∃ A c, pk va vb vf vr j = .slice A (pk a b f r j).length c ∧ (pk a b f r j).length ≤ c ∧ c ≤ 9223372036854775807 ∧ TokAt w w.heap.size A (pk a b f r j)) := Lib.hid fun j => by
    match j with
    | 0 => exact ha.tok
    | 1 => exact hb.tok
    | 2 => exact hf.tok
    | n + 3 => exact hr.tok
  obtain ⟨A0, c0, hva, _⟩ := ha.tok
  obtain ⟨A1, c1, hvb, _⟩ := hb.tok
  obtain ⟨A2, c2, hvf, _⟩ := hf.tok
  obtain ⟨A3, c3, hvr, _⟩ := hr.tok
  subst hva hvb hvf hvr
  clear ha hb hf hr
  obtain ⟨i0, hi, hz0, hz1, hz2⟩ := info_parts info46
  go_enter Try.func7, Try.ntmps7
  go_wp2_with fail
  go_loopw [8] (fun iv wr => ∃ i : Nat, i ≤ 4 ∧ iv = .int .i64 i ∧ Arr w wr w.heap.size (w.heap.size + 1) (pk (.slice A0 a.length c0) (.slice A1 b.length c1) (.slice A2 f.length c2) (.slice A3 r.length c3)) (pk a b f r) i) (fun iv _ => (4 - intOf iv).toNat)
  case atStart =>
    refine ⟨0, by omega, rfl, _, ⟨_, heap_alloc_new' _ _ (by simp), rfl, fun i hi => ?_⟩, fun j hj => by omega, fun j _ => rfl, ((Below.refl _ _).alloc (Nat.le_refl _) _).alloc (by simp) _⟩
    match i, hi with
    | 0, _ => rfl
    | 1, _ => rfl
    | 2, _ => rfl
    | 3, _ => rfl
  case round =>
    obtain ⟨i, hi4, rfl, harr⟩ := hrel
    have HAR := Lib.hid harr
    clear harr
    by_cases hilt : i < 4
    · obtain ⟨c, hrow, hown, hrest, hbw⟩ := HAR.out
      obtain ⟨A, cc, hv, hn, hc, HT⟩ := HK.out i
      have hcell : wr.cell? ⟨w.heap.size + 1, i, none⟩ = some (.slice A (pk a b f r i).length cc) := by rw [hrow.cell hilt, hrest i (Nat.le_refl _), hv]
      have hG := hrow.lt
      have hiI : (i : Int) < 4 := by omega
      obtain ⟨l, hl⟩ : ∃ l, l = pk a b f r i := ⟨_, rfl⟩
      rw [← hl] at hcell hn HT
      have HL := Lib.hid hl
      obtain ⟨cs, hcs⟩ := rowIs_get hrow
      have hfr : wr.frozen? ⟨w.heap.size + 1, i, none⟩ = false := hrow.frozen i
      have HTW := Lib.hid (HT.below hbw)
      have hcc : wr.heap.size ≥ w.heap.size := hbw.size
      have HCS := Lib.hid hcs
      clear hl hv hown hrest hrow HT hbw hcs
      go_wp2_with fail
      obtain ⟨wi, hwi⟩ : ∃ wi : World, wi = wr := ⟨_, rfl⟩
      rw [← hwi] at HAR hcell hG hfr HTW hcc HCS ⊢
      clear hwi
      go_loopw [9, 10] (fun out kv wr => ∃ k : Nat, k ≤ l.length ∧ k ≤ 20 ∧ kv = .int .i64 k ∧ OwnT wr wi.heap.size out ((ones l).take k) ∧ Below wi.heap.size wi wr) (fun _ kv _ => (20 - intOf kv).toNat)
      case atStart => exact ⟨0, by omega, by omega, rfl, Own.nil _ _, Below.refl _ _⟩
      case round =>
        obtain ⟨k, hk, hk20, rfl, hown, hbr⟩ := hrel
        have hbz := hbr.size
        have k1 := cell_over hcell hbr
        have hf1 : wr.frozen? ⟨w.heap.size + 1, i, none⟩ = false := (hbr.frozen (p := ⟨w.heap.size + 1, i, none⟩) hG).trans hfr
        by_cases hgo : k < l.length ∧ k < 20
        · obtain ⟨hkl, hk2⟩ := hgo
          have HS := Lib.hid (ones_take hkl hk2)
          obtain ⟨b1, o1, rfl, hbB, g1, g2⟩ := (HTW.out.below (hbr.mono hcc)) k hkl
          have d1 : decide ((k : Int) < (l.length : Int)) = true := by simp; omega
          have d2 : decide ((k : Int) < 20) = true := by simp; omega
          go_wp2_with (at_builtin; refine wpList_push _ rfl _ _ 22 rfl wi.heap.size 46 i0 _ 2 16 Try.underlying22 hi hz0 hz1 hz2 rfl (by decide) encT_length encT_one _ _ rfl (hown.alloc _) _ _ (l[k].1, 1) rfl (cells_new _ _ _) ?c1 ?c2 ?c3 ?_)
          case c1 => rw [List.length_take]; omega
          case c2 => rw [List.length_take]; omega
          case c3 => simp; omega
          intro v' w1 hown1 hg1
          have hb1 : Below wi.heap.size wi w1 := (hbr.alloc hbz _).grown hg1 (by simp; omega) (fun q hq => (hown.lt q hq).1)
          rw [← HS.out] at hown1
          clear hown k1 hf1 g1 g2
          go_wp2
          go_roundw
          case rel => exact ⟨k + 1, by omega, by omega, by go_num, hown1, hb1⟩
          case measure => simp [intOf]; omega
        · have HE : Hid ((ones l).take k = ones l) := Lib.hid (ones_all hgo)
          have HPUT : Hid (∀ x, OwnT wr wi.heap.size x (ones l) → Arr w (wr.setCell ⟨w.heap.size + 1, i, none⟩ x) w.heap.size (w.heap.size + 1) (pk (.slice A0 a.length c0) (.slice A1 b.length c1) (.slice A2 f.length c2) (.slice A3 r.length c3)) (pk a b f r) (i + 1)) :=
            Lib.hid fun x hx => HAR.out.put (by omega) hcc hbr (by rw [← HL.out]; exact hx)
          rw [HE.out] at hown
          obtain ⟨Ao, co, rfl, _, _⟩ := hown.shape
          have HR := Lib.hid (HPUT.out _ hown)
          clear hown HPUT HE
          go_wp2
          all_goals
            go_roundw
            case rel => exact ⟨i + 1, by omega, by go_num, HR.out⟩
            case measure => simp [intOf]; omega
    · obtain rfl : i = 4 := by omega
      obtain ⟨c, hrow, hown, _, hbw⟩ := HAR.out
      have p0 : OwnT wr w.heap.size (c 0) (ones a) := hown 0 (by omega)
      have p1 : OwnT wr w.heap.size (c 1) (ones b) := hown 1 (by omega)
      have p2 : OwnT wr w.heap.size (c 2) (ones f) := hown 2 (by omega)
      have p3 : OwnT wr w.heap.size (c 3) (ones r) := hown 3 (by omega)
      obtain ⟨X0, y0, e0, _, _⟩ := p0.shape
      obtain ⟨X1, y1, e1, _, _⟩ := p1.shape
      obtain ⟨X2, y2, e2, _, _⟩ := p2.shape
      obtain ⟨X3, y3, e3, _, _⟩ := p3.shape
      have k0 : wr.cell? ⟨w.heap.size + 1, 0, none⟩ = some (.slice X0 (ones a).length y0) := by rw [hrow.cell (by omega), e0]
      have k1 : wr.cell? ⟨w.heap.size + 1, 1, none⟩ = some (.slice X1 (ones b).length y1) := by rw [hrow.cell (by omega), e1]
      have k2 : wr.cell? ⟨w.heap.size + 1, 2, none⟩ = some (.slice X2 (ones f).length y2) := by rw [hrow.cell (by omega), e2]
      have k3 : wr.cell? ⟨w.heap.size + 1, 3, none⟩ = some (.slice X3 (ones r).length y3) := by rw [hrow.cell (by omega), e3]
      rw [e0] at p0
      rw [e1] at p1
      rw [e2] at p2
      rw [e3] at p3
      have s0 := p0.sl encT_length
      have s1 := p1.sl encT_length
      have s2 := p2.sl encT_length
      have s3 := p3.sl encT_length
      have l0 := ones_length a
      have l1 := ones_length b
      have l2 := ones_length f
      have l3 := ones_length r
      have O0 := Lib.hid (ones_one a)
      have O1 := Lib.hid (ones_one b)
      have O2 := Lib.hid (ones_one f)
      have O3 := Lib.hid (ones_one r)
      obtain ⟨ua, hua⟩ : ∃ u, u = ones a := ⟨_, rfl⟩
      obtain ⟨ub, hub⟩ : ∃ u, u = ones b := ⟨_, rfl⟩
      obtain ⟨uf, huf⟩ : ∃ u, u = ones f := ⟨_, rfl⟩
      obtain ⟨ur, hur⟩ : ∃ u, u = ones r := ⟨_, rfl⟩
      rw [← hua] at k0 s0 l0 O0
      rw [← hub] at k1 s1 l1 O1
      rw [← huf] at k2 s2 l2 O2
      rw [← hur] at k3 s3 l3 O3
      have HBW := Lib.hid hbw
      clear hua hub huf hur p0 p1 p2 p3 e0 e1 e2 e3 hown hrow HAR HK hbw
      go_wp2_with fail
      go_region_held3 (fun w' => w'.cell? ⟨w.heap.size + 1, 2, none⟩ = some (.slice X2 uf.length y2) ∧ w'.cell? ⟨w.heap.size + 1, 0, none⟩ = some (.slice X0 ua.length y0) ∧ w'.cell? ⟨w.heap.size + 1, 3, none⟩ = some (.slice X3 ur.length y3))
        (first
          | exact ⟨k2, k0, k3⟩
          | exact ⟨cell_over k2 (((Below.refl wr.heap.size wr).alloc (Nat.le_refl _) _).drew), cell_over k0 (((Below.refl wr.heap.size wr).alloc (Nat.le_refl _) _).drew), cell_over k3 (((Below.refl wr.heap.size wr).alloc (Nat.le_refl _) _).drew)⟩
          | exact ⟨cell_over k2 hbx1, cell_over k0 hbx1, cell_over k3 hbx1⟩
          | exact ⟨cell_over k2 hbx2, cell_over k0 hbx2, cell_over k3 hbx2⟩
          | exact ⟨cell_over k2 hbx3, cell_over k0 hbx3, cell_over k3 hbx3⟩)
        (first
          | (refine step_append_sl _ (by rfl) _ _ _ (by rfl) wr.heap.size 46 i0 _ 16 Try.underlying22 hi hz0 hz1 hz2 rfl (by decide) encT_length encT_one (.slice (some ⟨wr.heap.size, 0, none⟩) 0 0) [] (by rfl) (Own.drew (Own.empty (enc := encT) (sz := 2) (E := 46) wr wr.heap.size (Nat.le_refl _))) _ _ uf (by rfl) (s2.over (((Below.refl wr.heap.size wr).alloc (Nat.le_refl _) _).drew)) (by simp only [List.length_nil]; omega) (by simp only [List.length_nil]; omega) (by simp) ?_; intro vx1 wx1 hox1 hgx1; have hbx1 : Below wr.heap.size wr wx1 := Below.grown (((Below.refl wr.heap.size wr).alloc (Nat.le_refl _) _).drew) hgx1 (by simp) (fun q hq => (World.ownsRow.lt (Own.drew (Own.empty (enc := encT) (sz := 2) (E := 46) wr wr.heap.size (Nat.le_refl _))) q hq).1))
          | (refine step_append_sl _ (by rfl) _ _ _ (by rfl) wr.heap.size 46 i0 _ 16 Try.underlying22 hi hz0 hz1 hz2 rfl (by decide) encT_length encT_one vx1 _ (by rfl) hox1 _ _ ua (by rfl) (s0.over hbx1) (by simp only [List.nil_append]; omega) (by simp only [List.nil_append]; omega) hbx1.size ?_; intro vx2 wx2 hox2 hgx2; have hbx2 : Below wr.heap.size wr wx2 := hbx1.grown hgx2 hbx1.size (fun q hq => (World.ownsRow.lt hox1 q hq).1))
          | (refine step_append_sl _ (by rfl) _ _ _ (by rfl) wr.heap.size 46 i0 _ 16 Try.underlying22 hi hz0 hz1 hz2 rfl (by decide) encT_length encT_one vx2 _ (by rfl) hox2 _ _ ur (by rfl) (s3.over hbx2) (by simp only [List.nil_append, List.length_append]; omega) (by simp only [List.nil_append, List.length_append]; omega) hbx2.size ?_; intro vx3 wx3 hox3 hgx3; have hbx3 : Below wr.heap.size wr wx3 := hbx2.grown hgx3 hbx2.size (fun q hq => (World.ownsRow.lt hox2 q hq).1)))
      have HO := Lib.hid (hox3.sl encT_length)
      have k0' := cell_over k0 hbx3
      have k1' := cell_over k1 hbx3
      have k2' := cell_over k2 hbx3
      have k3' := cell_over k3 hbx3
      have s0' := s0.over hbx3
      have s1' := s1.over hbx3
      have s2' := s2.over hbx3
      have s3' := s3.over hbx3
      have HB3 := Lib.hid (HBW.out.trans (hbx3.mono HBW.out.size))
      clear k0 k1 k2 k3 s0 s1 s2 s3 hox3 hox2 hox1 hgx1 hgx2 hgx3 hbx1 hbx2 hbx3
      go_wp2_with fail
      go_region_held3 (fun w' => w'.cell? ⟨w.heap.size + 1, 2, none⟩ = some (.slice X2 uf.length y2) ∧ w'.cell? ⟨w.heap.size + 1, 1, none⟩ = some (.slice X1 ub.length y1) ∧ w'.cell? ⟨w.heap.size + 1, 3, none⟩ = some (.slice X3 ur.length y3))
        (first
          | exact ⟨k2', k1', k3'⟩
          | exact ⟨cell_over k2' (((Below.refl wx3.heap.size wx3).alloc (Nat.le_refl _) _).drew), cell_over k1' (((Below.refl wx3.heap.size wx3).alloc (Nat.le_refl _) _).drew), cell_over k3' (((Below.refl wx3.heap.size wx3).alloc (Nat.le_refl _) _).drew)⟩
          | exact ⟨cell_over k2' hby1, cell_over k1' hby1, cell_over k3' hby1⟩
          | exact ⟨cell_over k2' hby2, cell_over k1' hby2, cell_over k3' hby2⟩
          | exact ⟨cell_over k2' hby3, cell_over k1' hby3, cell_over k3' hby3⟩)
        (first
          | (refine step_append_sl _ (by rfl) _ _ _ (by rfl) wx3.heap.size 46 i0 _ 16 Try.underlying22 hi hz0 hz1 hz2 rfl (by decide) encT_length encT_one (.slice (some ⟨wx3.heap.size, 0, none⟩) 0 0) [] (by rfl) (Own.drew (Own.empty (enc := encT) (sz := 2) (E := 46) wx3 wx3.heap.size (Nat.le_refl _))) _ _ uf (by rfl) (s2'.over (((Below.refl wx3.heap.size wx3).alloc (Nat.le_refl _) _).drew)) (by simp only [List.length_nil]; omega) (by simp only [List.length_nil]; omega) (by simp) ?_; intro vy1 wy1 hoy1 hgy1; have hby1 : Below wx3.heap.size wx3 wy1 := Below.grown (((Below.refl wx3.heap.size wx3).alloc (Nat.le_refl _) _).drew) hgy1 (by simp) (fun q hq => (World.ownsRow.lt (Own.drew (Own.empty (enc := encT) (sz := 2) (E := 46) wx3 wx3.heap.size (Nat.le_refl _))) q hq).1))
          | (refine step_append_sl _ (by rfl) _ _ _ (by rfl) wx3.heap.size 46 i0 _ 16 Try.underlying22 hi hz0 hz1 hz2 rfl (by decide) encT_length encT_one vy1 _ (by rfl) hoy1 _ _ ub (by rfl) (s1'.over hby1) (by simp only [List.nil_append]; omega) (by simp only [List.nil_append]; omega) hby1.size ?_; intro vy2 wy2 hoy2 hgy2; have hby2 : Below wx3.heap.size wx3 wy2 := hby1.grown hgy2 hby1.size (fun q hq => (World.ownsRow.lt hoy1 q hq).1))
          | (refine step_append_sl _ (by rfl) _ _ _ (by rfl) wx3.heap.size 46 i0 _ 16 Try.underlying22 hi hz0 hz1 hz2 rfl (by decide) encT_length encT_one vy2 _ (by rfl) hoy2 _ _ ur (by rfl) (s3'.over hby2) (by simp only [List.nil_append, List.length_append]; omega) (by simp only [List.nil_append, List.length_append]; omega) hby2.size ?_; intro vy3 wy3 hoy3 hgy3; have hby3 : Below wx3.heap.size wx3 wy3 := hby2.grown hgy3 hby2.size (fun q hq => (World.ownsRow.lt hoy2 q hq).1)))
      have hO1 := HO.out.over hby3
      have hO2 := hoy3.sl encT_length
      simp only [List.nil_append] at hO1 hO2
      have q0 := cell_over k0' hby3
      have q1 := cell_over k1' hby3
      have q2 := cell_over k2' hby3
      have q3 := cell_over k3' hby3
      have t0 := s0'.over hby3
      have t1 := s1'.over hby3
      have hb4 := HB3.out.trans (hby3.mono HB3.out.size)
      obtain ⟨v, hv⟩ : ∃ v, v = oT 0 ua ub 0 0 0 := ⟨_, rfl⟩
      have hvb := oT_bound 0 (by omega) (by omega) ua ub O0.out.ok O1.out.ok 0 0 0
      rw [← hv] at hvb
      have hg0 : gapL 0 = 0 := rfl
      have HB1 : Hid (bestL ua ub 0 = (v, 0)) := Lib.hid (by unfold bestL; rw [if_neg (by rw [bothL_of O0.out.ok O1.out.ok (by omega) (by omega)]; simp), if_neg (by rw [hg0]; simp), hv])
      have HB2 : Hid (bestL (uf ++ ua ++ ur) (uf ++ ub ++ ur) 0 = (v + uf.length + ur.length, 0)) := Lib.hid (by
        unfold bestL
        rw [if_neg (by rw [bothL_of ((O2.out.append O0.out).append O3.out).ok ((O2.out.append O1.out).append O3.out).ok (by simp; omega) (by simp; omega)]; simp), if_neg (by rw [hg0]; simp), oT_prefixes O0.out O1.out O2.out O3.out, hv])
      clear hg0 hv hoy1 hoy2 hoy3 hgy1 hgy2 hgy3 hby1 hby2 hby3 k0' k1' k2' k3' s0' s1' s2' s3' HO
      obtain ⟨ax, hax⟩ : ∃ x, x = uf ++ ua ++ ur := ⟨_, rfl⟩
      obtain ⟨bx, hbx⟩ : ∃ x, x = uf ++ ub ++ ur := ⟨_, rfl⟩
      rw [← hax] at hO1 HB2
      rw [← hbx] at hO2 HB2
      clear hax hbx
      go_wp2_with fail
      refine (best_any _ _ ua ub 0 wy3 t0 t1).mono ?_
      rw [HB1.out]
      rintro e w5 ⟨rfl, hk⟩
      have hb5 := hb4.trans (hk.mono hb4.size)
      have hO15 := hO1.over hk
      have hO25 := hO2.over hk
      have r2 := cell_over q2 hk
      have r3 := cell_over q3 hk
      clear hb4 hO1 hO2 q0 q1 q2 q3 t0 t1 hk
      go_wp2_with fail
      refine (best_any _ _ ax bx 0 w5 hO15 hO25).mono ?_
      rw [HB2.out]
      rintro e w6 ⟨rfl, hk⟩
      have hb6 := hb5.trans (hk.mono hb5.size)
      have m2 := cell_over r2 hk
      have m3 := cell_over r3 hk
      clear hb5 hO15 hO25 r2 r3 hk
      go_wp2_with fail
      refine (known_any _).mono ?_
      rintro e w7 ⟨rfl, hk⟩
      have hb7 := hb6.trans (hk.mono hb6.size)
      have n2 := cell_over m2 hk
      have n3 := cell_over m3 hk
      clear hb6 m2 m3 hk
      go_wp2_with fail
      go_ret
      exact ⟨rfl, hb7⟩
end Go.Proofs.Ytbpegoekjlehcaa
