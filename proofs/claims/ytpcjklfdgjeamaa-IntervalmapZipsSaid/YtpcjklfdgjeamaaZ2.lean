/- Walk: the reference's Zip. -/
import Derived.Test.YtpcjklfdgjeamaaZ1
import Derived.Test.YtpcjklfdgjeamaaR3
namespace Go.Proofs.Ytpcjklfdgjeamaa
open Go.RowKit

theorem own_lastP {E : TypeId} {W : World} {B : Nat} {v : Value} {o : List Pr} {s : Pr} (h : Own encP 4 E W B v (o ++ [s])) :
    ∃ g cap, v = .slice (some ⟨g, 0, none⟩) (o.length + 1) cap ∧ o.length < cap ∧ cap ≤ 9223372036854775807 ∧ B ≤ g ∧ g < W.heap.size ∧
      W.cell? ⟨g, o.length * 4 + 1, none⟩ = some (.int .i64 s.2.1) ∧ W.cell? ⟨g, o.length * 4 + 2, none⟩ = some (.int .i64 s.2.2.1) ∧ W.cell? ⟨g, o.length * 4 + 3, none⟩ = some (.int .i64 s.2.2.2) ∧ W.frozen? ⟨g, o.length * 4 + 1, none⟩ = false := by
  have hl : (o ++ [s]).length = o.length + 1 := by simp
  obtain ⟨g, cap, rfl, hkc, hcm⟩ := h.some (by omega)
  obtain ⟨cur, hblk, hg1, hg2⟩ := h.blk
  obtain ⟨_, _, he1, _, _, hcl⟩ := h.sl encP_length
  injection he1 with he1 _ he2
  subst he1 he2
  obtain ⟨g', o', he1, _, hcl⟩ := hcl (by omega)
  injection he1 with he1
  injection he1 with he1 he2
  subst he1 he2
  have c1 := hcl o.length s (by simp) 1 _ rfl
  have c2 := hcl o.length s (by simp) 2 _ rfl
  have c3 := hcl o.length s (by simp) 3 _ rfl
  simp only [Nat.zero_add] at c1 c2 c3
  exact ⟨g, cap, by rw [hl], by omega, by unfold maxLen at hcm; omega, hg1, hg2, c1, c2, c3, blk_free hblk _⟩
theorem own_last_setP {E : TypeId} {W : World} {B g n cap : Nat} {o : List Pr} {s : Pr} (h : Own encP 4 E W B (.slice (some ⟨g, 0, none⟩) n cap) (o ++ [s])) (z : Int) :
    Own encP 4 E (W.setCell ⟨g, o.length * 4 + 1, none⟩ (.int .i64 z)) B (.slice (some ⟨g, 0, none⟩) n cap) (o ++ [(s.1, z, s.2.2)]) := by
  have := h.set encP_length o.length 1 (.int .i64 z) (s.1, z, s.2.2) (by simp) (by omega) (by simp [encP])
  simpa using this

/-- The last pair ends at q. -/
def LastTo (o : List Pr) (q : Int) : Prop := ∀ o' r, o = o' ++ [r] → r.2.1 = q
theorem lastTo_nil (q : Int) : LastTo [] q := fun o' r e => by
  have := congrArg List.length e
  simp at this
theorem lastTo_snoc {o : List Pr} {r : Pr} {q : Int} (h : r.2.1 = q) : LastTo (o ++ [r]) q := fun o' r' e => by rw [← snoc_inj e]; exact h
theorem addP_length (out : List Pr) (n : Int) (v : IP) (q : Int) : (addP out n v q).length ≤ out.length + 1 := by
  rcases nil_or_snoc out with rfl | ⟨o, r, rfl⟩
  · simp [addP_nil]
  · rw [addP_snoc]; split <;> simp
theorem zip_get (l k : List Int) (i : Nat) (h1 : i < l.length) (h2 : i < k.length) (h : i < (l.zip k).length) : (l.zip k)[i] = (l[i], k[i]) := by simp

set_option maxRecDepth 100000 in
set_option maxHeartbeats 4000000 in
theorem rzip_any (lv kv : Value) (l l' : List Int) (w : World) (h : IntsV w w.heap.size lv l) (h' : IntsV w w.heap.size kv l') (hel : l.length = l'.length) (hl : l.length ≤ 1048576) :
    Calls Try.prog 33 #[lv, kv] w fun e w' => ∃ v, e = .returned v ∧ Own encP 4 75 w' w.heap.size v (pairsOf l l') ∧ Below w.heap.size w w' := by
  obtain ⟨i0, hi, hz0, hz1, hz2⟩ := info_parts info75
  obtain ⟨A, c, rfl, hlc, hc, hR⟩ := h.ints
  obtain ⟨A', c', rfl, hlc', hc', hR'⟩ := h'.ints
  obtain ⟨n, hn⟩ : ∃ n, n = l.length := ⟨_, rfl⟩
  have hn' : n = l'.length := by omega
  rw [← hn] at hlc hl ⊢
  rw [← hn'] at hlc' ⊢
  have HR := Lib.hid hR
  have HR' := Lib.hid hR'
  have HN := Lib.hid hn
  have HN' := Lib.hid hn'
  have HZL : Hid ((l.zip l').length = n) := Lib.hid (by rw [List.length_zip]; omega)
  obtain ⟨T, hT⟩ : ∃ T, T = pairsOf l l' := ⟨_, rfl⟩
  have H0 : Hid (zipF ((l.zip l').drop 0) [] ((0 : Nat) : Int) = T) := Lib.hid (by rw [hT]; rfl)
  rw [← hT]
  clear h h' hR hR' hel hn hn' hT
  go_enter Try.func33, Try.ntmps33
  go_wp2
  go_loopw [5, 6] (fun ov kv wr => ∃ (k : Nat) (o : List Pr), k ≤ n ∧ kv = .int .i64 k ∧ Own encP 4 75 wr w.heap.size ov o ∧ Hid (zipF ((l.zip l').drop k) o k = T) ∧ Hid (LastTo o k) ∧ o.length ≤ k ∧ Below w.heap.size w wr) (fun _ kv _ => n - (intOf kv).toNat)
  case atStart => exact ⟨0, [], Nat.zero_le _, rfl, Own.nil _ _, H0, Lib.hid (lastTo_nil _), by simp, Below.refl _ _⟩
  case round =>
    obtain ⟨k, o, hk, rfl, hown, HJ, HE, hol, hbr⟩ := hrel
    have hbz := hbr.size
    by_cases hlt : k < n
    · obtain ⟨b, oo, rfl, hbB, g1⟩ := (HR.out.below hbr) k (by rw [← HN.out]; exact hlt)
      obtain ⟨b', oo', rfl, hbB', g1'⟩ := (HR'.out.below hbr) k (by rw [← HN'.out]; exact hlt)
      have HS := Lib.hid (zipF_drop (l.zip l') k (by rw [HZL.out]; exact hlt) o k)
      rw [zip_get l l' k (by rw [← HN.out]; exact hlt) (by rw [← HN'.out]; exact hlt)] at HS
      obtain ⟨x, hx⟩ : ∃ x, x = l[k]'(by rw [← HN.out]; exact hlt) := ⟨_, rfl⟩
      obtain ⟨y, hy⟩ : ∃ y, y = l'[k]'(by rw [← HN'.out]; exact hlt) := ⟨_, rfl⟩
      rw [← hx] at g1 HS
      rw [← hy] at g1' HS
      clear hx hy
      have hk1 : ((k : Int) + 1) = ((k + 1 : Nat) : Int) := by omega
      have HJ2 : Hid (zipF ((l.zip l').drop (k + 1)) (addP o 1 (x, y) k) ((k + 1 : Nat) : Int) = T) := Lib.hid (by rw [← hk1, ← HS.out]; exact HJ.out)
      have hkk : IntKind.i64.wrap ((k : Int) + 1) = (k : Int) + 1 := IntWalk.i64_in _ (by omega)
      have hkn : (k : Int) < (n : Int) := by omega
      clear hk1 HS HJ
      rcases nil_or_snoc o with rfl | ⟨o, s, rfl⟩
      · rw [addP_nil] at HJ2
        have HL2 : Hid (LastTo ([] ++ [((k : Int), (k : Int) + 1, x, y)]) ((k + 1 : Nat) : Int)) := Lib.hid (lastTo_snoc (by simp))
        obtain ⟨Ao, co, rfl, hco1, hco2⟩ := hown.shape
        have hd : decide ((0 : Int) < 0) = false := by simp
        go_wp2
        go_quiet (fail)
        have hownQ := hown.drewN nq
        have hbQ := below_drewN hbr nq
        have gQ := cell_over g1 (below_drewN (Below.refl _ _) nq)
        have gQ' := cell_over g1' (below_drewN (Below.refl _ _) nq)
        clear hown g1 g1' hbr hbz
        generalize wr.drewN nq = wq at hownQ hbQ gQ gQ' ⊢
        have hownX := Own.drew (hownQ.alloc (.cells #[.int .i64 (k : Int), .int .i64 ((k : Int) + 1), .int .i64 x, .int .i64 y] 75))
        have hslX := (Own.drew (own_one (enc := encP) (sz := 4) (E := 75) wq ((k : Int), (k : Int) + 1, x, y) rfl 0 (Nat.zero_le _))).sl encP_length
        have hbA : Below w.heap.size w ((wq.alloc (.cells #[.int .i64 (k : Int), .int .i64 ((k : Int) + 1), .int .i64 x, .int .i64 y] 75)).drew) := (hbQ.alloc hbQ.size _).drew
        have hbz := hbQ.size
        have HA := Lib.hid hownX
        have HX := Lib.hid hslX
        clear hownX hslX hownQ
        go_wp2
        go_region_held3 (fun w' => w'.cell? ⟨b, oo + k, none⟩ = some (.int .i64 x) ∧ w'.cell? ⟨b', oo' + k, none⟩ = some (.int .i64 y))
          (first
            | exact ⟨q1, q2⟩
            | exact ⟨cell_over gQ ((Below.refl wq.heap.size wq).alloc (Nat.le_refl _) _).drew, cell_over gQ' ((Below.refl wq.heap.size wq).alloc (Nat.le_refl _) _).drew⟩
            | exact ⟨cell_over gQ (Below.refl _ _).drew, cell_over gQ' (Below.refl _ _).drew⟩
            | exact ⟨gQ, gQ'⟩)
          (first
            | (refine step_append_sl _ (by rfl) _ _ _ (by rfl) w.heap.size 75 i0 _ 32 Try.underlying71 hi hz0 hz1 hz2 rfl (by decide) encP_length encP_one _ [] (by rfl) HA.out _ _ [((k : Int), (k : Int) + 1, x, y)] (by rfl) HX.out (by simp) (by simp) (by simp; omega) ?_; intro v' w5 hown5 hg5; have hb5 : Below w.heap.size w w5 := hbA.grown hg5 (by simp; omega) (fun q hq => (HA.out.lt q hq).1); have q1 := ((hb5.cell (p := ⟨b, oo + k, none⟩) hbB).trans ((hbQ.cell (p := ⟨b, oo + k, none⟩) hbB).symm)).trans gQ; have q2 := ((hb5.cell (p := ⟨b', oo' + k, none⟩) hbB').trans ((hbQ.cell (p := ⟨b', oo' + k, none⟩) hbB').symm)).trans gQ'))
        clear q1 q2 gQ gQ'
        go_wp2
        go_roundw
        case rel => exact ⟨k + 1, _, by omega, by go_num, hown5, HJ2, HL2, by simp, hb5⟩
        case measure => simp [intOf]; omega
      · have HSN := Lib.hid (addP_snoc o s 1 (x, y) k)
        have HEo : Hid (s.2.1 = k) := Lib.hid (HE.out o s rfl)
        obtain ⟨s0, s1, s2, s3⟩ := s
        simp only at HSN HEo
        obtain ⟨g, cap, rfl, hoc, hcap, hg, hgs, d1, d2, d3, df⟩ := own_lastP hown
        simp only at d1 d2 d3
        obtain ⟨j, hj⟩ : ∃ j, j = o.length := ⟨_, rfl⟩
        have hjk : j < k := by simp at hol; omega
        have hol2 : (o ++ [(s0, s1, s2, s3)]).length = j + 1 := by simp; omega
        rw [← hj] at d1 d2 d3 df hoc
        have HJ' := Lib.hid hj
        try simp only [List.length_append, List.length_singleton] at hown
        rw [← hj] at hown ⊢
        have hwj : IntKind.i64.wrap (((j + 1 : Nat) : Int) - 1) = (j : Int) := by rw [IntWalk.i64_in _ (by omega)]; omega
        have hwj2 : IntKind.i64.wrap ((j : Int) + 1 - 1) = (j : Int) := by rw [IntWalk.i64_in _ (by omega)]; omega
        have HOL := Lib.hid hol2
        clear hj hol2
        have hd : decide ((0 : Int) < (j : Int) + 1) = true := by simp only [decide_eq_true_eq]; omega
        by_cases he : s2 = x
        · subst he
          by_cases he3 : s3 = y
          · subst he3
            rw [HSN.out, if_pos rfl] at HJ2
            have HL2 : Hid (LastTo (o ++ [(s0, s1 + 1, s2, s3)]) ((k + 1 : Nat) : Int)) := Lib.hid (lastTo_snoc (by simp; exact HEo.out))
            have HOS : Hid (∀ nq, Own encP 4 75 ((wr.drewN nq).setCell ⟨g, j * 4 + 1, none⟩ (.int .i64 ((k : Int) + 1))) w.heap.size (.slice (some ⟨g, 0, none⟩) (j + 1) cap) (o ++ [(s0, s1 + 1, s2, s3)])) :=
              Lib.hid fun nq => by rw [HEo.out, HJ'.out]; rw [HJ'.out] at hown; exact own_last_setP (hown.drewN nq) _
            clear hown HSN
            go_wp2
            go_quiet (fail)
            have HO := HOS.out nq
            have hbn : Below w.heap.size w ((wr.drewN nq).setCell ⟨g, j * 4 + 1, none⟩ (.int .i64 ((k : Int) + 1))) := (below_drewN hbr nq).setCell (by exact hg) _
            clear HOS
            go_wp2
            go_roundw
            case rel => exact ⟨k + 1, _, by omega, by go_num, HO, HJ2, HL2, by have := HOL.out; simp at this ⊢; omega, hbn⟩
            case measure => simp [intOf]; omega
          · rw [HSN.out, if_neg (by intro e; injection e with _ e; exact he3 e)] at HJ2
            have HL2 : Hid (LastTo (o ++ [(s0, s1, s2, s3)] ++ [((k : Int), (k : Int) + 1, s2, y)]) ((k + 1 : Nat) : Int)) := Lib.hid (lastTo_snoc (by simp))
            have hd3 : (s3 == y) = false := by simpa using he3
            clear HSN he3
            go_wp2
            go_quiet (fail)
            have hownQ := hown.drewN nq
            have hbQ := below_drewN hbr nq
            have gQ := cell_over g1 (below_drewN (Below.refl _ _) nq)
            have gQ' := cell_over g1' (below_drewN (Below.refl _ _) nq)
            clear hown g1 g1' hbr hbz
            generalize wr.drewN nq = wq at hownQ hbQ gQ gQ' ⊢
            have hownX := Own.drew (hownQ.alloc (.cells #[.int .i64 (k : Int), .int .i64 ((k : Int) + 1), .int .i64 s2, .int .i64 y] 75))
            have hslX := (Own.drew (own_one (enc := encP) (sz := 4) (E := 75) wq ((k : Int), (k : Int) + 1, s2, y) rfl 0 (Nat.zero_le _))).sl encP_length
            have hbA : Below w.heap.size w ((wq.alloc (.cells #[.int .i64 (k : Int), .int .i64 ((k : Int) + 1), .int .i64 s2, .int .i64 y] 75)).drew) := (hbQ.alloc hbQ.size _).drew
            have hbz := hbQ.size
            have HA := Lib.hid hownX
            have HX := Lib.hid hslX
            clear hownX hslX hownQ
            go_wp2
            go_region_held3 (fun w' => w'.cell? ⟨b, oo + k, none⟩ = some (.int .i64 s2) ∧ w'.cell? ⟨b', oo' + k, none⟩ = some (.int .i64 y))
              (first
                | exact ⟨q1, q2⟩
                | exact ⟨cell_over gQ ((Below.refl wq.heap.size wq).alloc (Nat.le_refl _) _).drew, cell_over gQ' ((Below.refl wq.heap.size wq).alloc (Nat.le_refl _) _).drew⟩
                | exact ⟨cell_over gQ (Below.refl _ _).drew, cell_over gQ' (Below.refl _ _).drew⟩
                | exact ⟨gQ, gQ'⟩)
              (first
                | (refine step_append_sl _ (by rfl) _ _ _ (by rfl) w.heap.size 75 i0 _ 32 Try.underlying71 hi hz0 hz1 hz2 rfl (by decide) encP_length encP_one _ (o ++ [(s0, s1, s2, s3)]) (by rfl) HA.out _ _ [((k : Int), (k : Int) + 1, s2, y)] (by rfl) HX.out (by rw [HOL.out]; simp; omega) (by rw [HOL.out]; simp; omega) (by simp; omega) ?_; intro v' w5 hown5 hg5; have hb5 : Below w.heap.size w w5 := hbA.grown hg5 (by simp; omega) (fun q hq => (HA.out.lt q hq).1); have q1 := ((hb5.cell (p := ⟨b, oo + k, none⟩) hbB).trans ((hbQ.cell (p := ⟨b, oo + k, none⟩) hbB).symm)).trans gQ; have q2 := ((hb5.cell (p := ⟨b', oo' + k, none⟩) hbB').trans ((hbQ.cell (p := ⟨b', oo' + k, none⟩) hbB').symm)).trans gQ'))
            clear q1 q2 gQ gQ'
            go_wp2
            go_roundw
            case rel => exact ⟨k + 1, _, by omega, by go_num, hown5, HJ2, HL2, by have := HOL.out; rw [List.length_append, HOL.out]; simp; omega, hb5⟩
            case measure => simp [intOf]; omega
        · rw [HSN.out, if_neg (by intro e; injection e with e _; exact he e)] at HJ2
          have HL2 : Hid (LastTo (o ++ [(s0, s1, s2, s3)] ++ [((k : Int), (k : Int) + 1, x, y)]) ((k + 1 : Nat) : Int)) := Lib.hid (lastTo_snoc (by simp))
          have hd2 : (s2 == x) = false := by simpa using he
          clear HSN he
          go_wp2
          go_quiet (fail)
          have hownQ := hown.drewN nq
          have hbQ := below_drewN hbr nq
          have gQ := cell_over g1 (below_drewN (Below.refl _ _) nq)
          have gQ' := cell_over g1' (below_drewN (Below.refl _ _) nq)
          clear hown g1 g1' hbr hbz
          generalize wr.drewN nq = wq at hownQ hbQ gQ gQ' ⊢
          have hownX := Own.drew (hownQ.alloc (.cells #[.int .i64 (k : Int), .int .i64 ((k : Int) + 1), .int .i64 x, .int .i64 y] 75))
          have hslX := (Own.drew (own_one (enc := encP) (sz := 4) (E := 75) wq ((k : Int), (k : Int) + 1, x, y) rfl 0 (Nat.zero_le _))).sl encP_length
          have hbA : Below w.heap.size w ((wq.alloc (.cells #[.int .i64 (k : Int), .int .i64 ((k : Int) + 1), .int .i64 x, .int .i64 y] 75)).drew) := (hbQ.alloc hbQ.size _).drew
          have hbz := hbQ.size
          have HA := Lib.hid hownX
          have HX := Lib.hid hslX
          clear hownX hslX hownQ
          go_wp2
          go_region_held3 (fun w' => w'.cell? ⟨b, oo + k, none⟩ = some (.int .i64 x) ∧ w'.cell? ⟨b', oo' + k, none⟩ = some (.int .i64 y))
            (first
              | exact ⟨q1, q2⟩
              | exact ⟨cell_over gQ ((Below.refl wq.heap.size wq).alloc (Nat.le_refl _) _).drew, cell_over gQ' ((Below.refl wq.heap.size wq).alloc (Nat.le_refl _) _).drew⟩
              | exact ⟨cell_over gQ (Below.refl _ _).drew, cell_over gQ' (Below.refl _ _).drew⟩
              | exact ⟨gQ, gQ'⟩)
            (first
              | (refine step_append_sl _ (by rfl) _ _ _ (by rfl) w.heap.size 75 i0 _ 32 Try.underlying71 hi hz0 hz1 hz2 rfl (by decide) encP_length encP_one _ (o ++ [(s0, s1, s2, s3)]) (by rfl) HA.out _ _ [((k : Int), (k : Int) + 1, x, y)] (by rfl) HX.out (by rw [HOL.out]; simp; omega) (by rw [HOL.out]; simp; omega) (by simp; omega) ?_; intro v' w5 hown5 hg5; have hb5 : Below w.heap.size w w5 := hbA.grown hg5 (by simp; omega) (fun q hq => (HA.out.lt q hq).1); have q1 := ((hb5.cell (p := ⟨b, oo + k, none⟩) hbB).trans ((hbQ.cell (p := ⟨b, oo + k, none⟩) hbB).symm)).trans gQ; have q2 := ((hb5.cell (p := ⟨b', oo' + k, none⟩) hbB').trans ((hbQ.cell (p := ⟨b', oo' + k, none⟩) hbB').symm)).trans gQ'))
          clear q1 q2 gQ gQ'
          go_wp2
          go_roundw
          case rel => exact ⟨k + 1, _, by omega, by go_num, hown5, HJ2, HL2, by have := HOL.out; rw [List.length_append, HOL.out]; simp; omega, hb5⟩
          case measure => simp [intOf]; omega
    · have HE2 : Hid (o = T) := Lib.hid (by have := HJ.out; rw [List.drop_of_length_le (by have := HZL.out; omega)] at this; exact this)
      go_wp2
      go_ret
      exact ⟨_, rfl, by rw [← HE2.out]; exact hown, hbr⟩
end Go.Proofs.Ytpcjklfdgjeamaa
