/- Walks: what changes a map, with the closure of Splice and with that of Add. -/
import Derived.Test.YtpcjklfdgjeamaaW6
namespace Go.Proofs.Ytpcjklfdgjeamaa
open Go.RowKit

abbrev MapIs (w : World) (m : Nat) (l : List Int) : Prop := MapAt w m (runsOf l)
theorem flat3 (v1 v3 v4 : Value) (a b c : List Rn) : flatOf [(v1, a), (v3, b), (v4, c)] = a ++ b ++ c := by simp [flatOf]
theorem lens3 (v1 v3 v4 : Value) (a b c : List Rn) : lensOf [(v1, a), (v3, b), (v4, c)] = a.length + b.length + c.length := by simp [lensOf]; omega
theorem len0 (l : List Int) : endOf 0 (runsOf l) = l.length := (runs_ok l).2.1

/-- What stands behind a change: the new runs in the map. -/
theorem map_set {w6 : World} {m : Nat} {v : Value} {l l' : List Int} (h : MapIs w6 m l) (ho : RunsV w6 w6.heap.size v (runsOf l')) : MapIs (w6.setCell ⟨m, 0, none⟩ v) m l' := by
  obtain ⟨u, h1, h2⟩ := id h
  refine ⟨v, ?_, ho.besides encR_int h (grown_set 0 v)⟩
  simp [World.setCell, Array.getElem?_modify, h1]

theorem change_bounds {R M : List Rn} {p q : Int} (hc : Cont 0 R) (hp : 0 ≤ p) (hpn : p ≤ endOf 0 R) (hq : 0 ≤ q) (hn : endOf 0 R ≤ 1048576) (hM : ∀ r ∈ M, 0 ≤ r.1 ∧ r.1 < r.2.1 ∧ r.2.1 ≤ 2097152) :
    ∀ r ∈ cutL R 0 p ++ M ++ cutL R q (endOf 0 R), 0 ≤ r.1 ∧ r.1 < r.2.1 ∧ r.2.1 ≤ 2097152 := by
  intro r hr
  rcases List.mem_append.1 hr with hr | hr
  · rcases List.mem_append.1 hr with hr | hr
    · have := cut_bounds hc (Int.le_refl 0) hpn r hr
      omega
    · exact hM r hr
  · have := cut_bounds hc hq (Int.le_refl _) r hr
    omega

set_option maxRecDepth 100000 in
set_option maxHeartbeats 1000000 in
theorem changeS_any (m : Nat) (l : List Int) (p q : Int) (pi pv : Nat) (ins val : Int) (w : World) (h : MapIs w m l) (hl : l.length ≤ 100000) (hp : 0 ≤ p) (hpq : p ≤ q) (hq : q ≤ l.length) (h1 : w.cell? ⟨pi, 0, none⟩ = some (.int .i64 ins)) (h2 : w.cell? ⟨pv, 0, none⟩ = some (.int .i64 val)) (hi : 0 ≤ ins) (hi2 : ins ≤ 1048576) :
    Calls Try.prog 44 #[.pointer (some ⟨m, 0, none⟩), .int .i64 p, .int .i64 q, .func (.func 45) #[] #[.pointer (some ⟨pi, 0, none⟩), .pointer (some ⟨pv, 0, none⟩)]] w fun e w' => e = .returned (.tuple #[]) ∧ w.grownBy w' (some m) ∧ MapIs w' m (spliceL l p.toNat q.toNat (List.replicate ins.toNat val)) := by
  have hc := (runs_ok l).1
  have hn := len0 l
  have hrl := runs_length l
  obtain ⟨R, hR⟩ : ∃ R, R = runsOf l := ⟨_, rfl⟩
  have hm : MapAt w m R := by rw [hR]; exact h
  rw [← hR] at hc hn hrl
  have hMx := spM_xp ins val hi
  have hMw := spM_wide ins val hi
  have hM : ∀ r ∈ spM ins val, 0 ≤ r.1 ∧ r.1 < r.2.1 ∧ r.2.1 ≤ 2097152 := fun r hr => by
    have := hMw r hr
    unfold spM at hr
    split at hr
    · simp at hr
    · simp at hr; subst hr; simp only at this ⊢; omega
  have cl3 : (spM ins val).length ≤ 1 := by unfold spM; split <;> simp
  have HB := Lib.hid (change_bounds (M := spM ins val) (p := p) (q := q) hc hp (by omega) (by omega) (by omega) hM)
  have HJ : Hid (joinF (cutL R 0 p ++ spM ins val ++ cutL R q (endOf 0 R)) [] 0 = runsOf (spliceL l p.toNat q.toNat (List.replicate ins.toNat val))) := Lib.hid (by
    have := join_parts l p.toNat q.toNat (spM ins val) hMw (by omega) (by omega)
    rw [Int.toNat_of_nonneg hp, Int.toNat_of_nonneg (show 0 ≤ q by omega), ← hR, hMx] at this
    rw [hn, this]
    rfl)
  have HR := Lib.hid hR
  have HC := Lib.hid hc
  have HN := Lib.hid hn
  have cl1 := cut_length R 0 p
  have cl2 := cut_length R p q
  have cl4 := cut_length R q (endOf 0 R)
  clear h hR hc hn hM hMw hMx
  go_enter Try.func44, Try.ntmps44
  go_wp2_with fail
  refine (cut_any m R 0 p w hm HC.out (by omega) (by have := HN.out; omega) (by omega) (by have := HN.out; omega)).mono ?_
  rintro e w1 ⟨v1, rfl, o1, b1⟩
  have hm1 := hm.below b1
  obtain ⟨A1, c1, rfl, _, _⟩ := o1.shape
  have s1 := o1.sl encR_length
  go_wp2_with fail
  refine (cut_any m R p q w1 hm1 HC.out hp (by have := HN.out; omega) (by omega) (by have := HN.out; omega)).mono ?_
  rintro e w2 ⟨v2, rfl, o2, b2⟩
  have hm2 := hm1.below b2
  obtain ⟨A2, c2, rfl, _, _⟩ := o2.shape
  have s2 := s1.over b2
  have b02 : Below w.heap.size w w2 := b1.trans (b2.mono b1.size)
  clear s1 o1 hm1
  go_wp2_with fail
  refine (spliceF_any _ pi pv ins val w2 (cell_over h1 b02) (cell_over h2 b02)).mono ?_
  rintro e w3 ⟨v3, rfl, o3, b3⟩
  have s3 := s2.over b3
  have hm3 := hm2.below b3
  have b03 : Below w.heap.size w w3 := b02.trans (b3.mono b02.size)
  obtain ⟨A3, c3, rfl, _, _⟩ := o3.shape
  have s4 := o3.sl encR_length
  clear s2 o2 hm2
  go_wp2_with fail
  refine (len_any m R w3 hm3).mono ?_
  rintro e w4' ⟨rfl, k4, rfl⟩
  have bD := below_drewN (Below.refl w3.heap.size w3) k4
  have s3' := s3.over bD
  have s4' := s4.over bD
  have hm4 := hm3.drewN k4
  clear s3 s4 o3 hm3
  go_wp2_with fail
  refine (cut_any m R q (endOf 0 R) _ hm4 HC.out (by omega) (by have := HN.out; omega) (by omega) (by have := HN.out; omega)).mono ?_
  rintro e w5 ⟨v4, rfl, o5, b5⟩
  obtain ⟨A5, c5, rfl, _, _⟩ := o5.shape
  have b05 : Below w.heap.size w w5 := b03.trans ((bD.trans b5).mono b03.size)
  have hm5 := hm4.below b5
  have t1 := s3'.over b5
  have t3 := s4'.over b5
  have t4 := o5.sl encR_length
  clear s3' s4' o5 hm4 b5 bD
  obtain ⟨n1, hn1⟩ : ∃ n, n = (cutL R 0 p).length := ⟨_, rfl⟩
  obtain ⟨n3, hn3⟩ : ∃ n, n = (spM ins val).length := ⟨_, rfl⟩
  obtain ⟨n5, hn5⟩ : ∃ n, n = (cutL R q (endOf 0 R)).length := ⟨_, rfl⟩
  rw [← hn1] at t1 cl1 ⊢
  rw [← hn3] at t3 cl3 ⊢
  rw [← hn5] at t4 cl4 ⊢
  obtain ⟨ps, hps⟩ : ∃ ps, ps = [((.slice A1 n1 c1 : Value), cutL R 0 p), (.slice A3 n3 c3, spM ins val), (.slice A5 n5 c5, cutL R q (endOf 0 R))] := ⟨_, rfl⟩
  obtain ⟨W, hW⟩ : ∃ W : World, W = w5.alloc (.cells #[.slice A1 n1 c1, .slice A3 n3 c3, .slice A5 n5 c5] 28) := ⟨_, rfl⟩
  have bW : Below w5.heap.size w5 W := by rw [hW]; exact (Below.refl _ _).alloc (Nat.le_refl _) _
  have HG := Lib.hid (join_any w5.heap.size 3 ps (by rw [hps]; rfl) W (by rw [hW]; simp) (by rw [hps, lens3]; omega) (by omega)
    (fun i hi => by
      rw [hps] at hi
      have hi3 : i < 3 := hi
      have := cells_new w5 [.slice A1 n1 c1, .slice A3 n3 c3, .slice A5 n5 c5] 28
      rw [hW]
      simp only [hps]
      match i, hi3 with
      | 0, _ => exact this 0 _ rfl
      | 1, _ => exact this 1 _ rfl
      | 2, _ => exact this 2 _ rfl)
    (fun x hx => by
      rw [hps] at hx
      simp only [List.mem_cons, List.not_mem_nil, or_false] at hx
      rcases hx with rfl | rfl | rfl
      · exact t1.over bW
      · exact t3.over bW
      · exact t4.over bW)
    (by rw [hps, flat3]; exact HB.out))
  have HF : Hid (joinF (flatOf ps) [] 0 = runsOf (spliceL l p.toNat q.toNat (List.replicate ins.toNat val))) := Lib.hid (by rw [hps, flat3]; exact HJ.out)
  have hmW := hm5.below bW
  have b0W : Below w.heap.size w W := b05.trans (bW.mono b05.size)
  have HW := Lib.hid hW.symm
  clear hn1 hn3 hn5 hps hW t1 t3 t4 hm5 b05 bW
  go_wp2_with fail
  rw [HW.out]
  refine HG.out.mono ?_
  rintro e w6 ⟨v5, rfl, o6, b6⟩
  rw [HF.out] at o6
  have hm6 := hmW.below b6
  have b06 : Below w.heap.size w w6 := b0W.trans (b6.mono b0W.size)
  have HM : Hid (MapIs w6 m l) := Lib.hid (by rw [HR.out] at hm6; exact hm6)
  obtain ⟨A6, c6, rfl, _, _⟩ := o6.shape
  have HMS := Lib.hid (map_set HM.out (o6.sl encR_length))
  have HGR := Lib.hid (grown_trans (grown_below b06 (some m)) (grown_set (g := m) 0 (.slice A6 (runsOf (spliceL l p.toNat q.toNat (List.replicate ins.toNat val))).length c6)))
  obtain ⟨u, hu, A7, c7, rfl, _⟩ := hm6
  have cm := blk_cell hu 0
  have fm := blk_free hu 0
  obtain ⟨n6, hn6⟩ : ∃ n, n = (runsOf (spliceL l p.toNat q.toNat (List.replicate ins.toNat val))).length := ⟨_, rfl⟩
  rw [← hn6] at HMS HGR ⊢
  clear hu hn6 o6 hmW b6 b0W b06
  go_wp2
  go_end0
  exact ⟨rfl, HGR.out, HMS.out⟩

set_option maxRecDepth 100000 in
set_option maxHeartbeats 1000000 in
theorem changeA_any (m : Nat) (l : List Int) (p q : Int) (pd : Nat) (d : Int) (w : World) (h : MapIs w m l) (hl : l.length ≤ 100000) (hp : 0 ≤ p) (hpq : p ≤ q) (hq : q ≤ l.length) (h1 : w.cell? ⟨pd, 0, none⟩ = some (.int .i64 d)) :
    Calls Try.prog 44 #[.pointer (some ⟨m, 0, none⟩), .int .i64 p, .int .i64 q, .func (.func 50) #[] #[.pointer (some ⟨pd, 0, none⟩)]] w fun e w' => e = .returned (.tuple #[]) ∧ w.grownBy w' (some m) ∧ MapIs w' m (spliceL l p.toNat q.toNat (((l.drop p.toNat).take (q.toNat - p.toNat)).map fun v => wr64 (v + d))) := by
  have hc := (runs_ok l).1
  have hn := len0 l
  have hrl := runs_length l
  obtain ⟨R, hR⟩ : ∃ R, R = runsOf l := ⟨_, rfl⟩
  have hm : MapAt w m R := by rw [hR]; exact h
  rw [← hR] at hc hn hrl
  have hcx : xp (cutL R p q) = (l.drop p.toNat).take (q.toNat - p.toNat) ∧ Wide (cutL R p q) := by
    have := cut_runs l p.toNat q.toNat (by omega)
    rwa [Int.toNat_of_nonneg hp, Int.toNat_of_nonneg (by omega), ← hR] at this
  have hMx : xp (addRs d (cutL R p q)) = ((l.drop p.toNat).take (q.toNat - p.toNat)).map fun v => wr64 (v + d) := by rw [addRs_xp, hcx.1]
  have hMw := addRs_wide (d := d) hcx.2
  have hM : ∀ r ∈ addRs d (cutL R p q), 0 ≤ r.1 ∧ r.1 < r.2.1 ∧ r.2.1 ≤ 2097152 := fun r hr => by
    obtain ⟨u, hu, rfl⟩ := List.mem_map.1 hr
    have := cut_bounds hc hp (by omega) u hu
    simp only; omega
  have cl3 : (addRs d (cutL R p q)).length ≤ R.length := by unfold addRs; rw [List.length_map]; exact cut_length R p q
  clear hcx
  have HB := Lib.hid (change_bounds (M := addRs d (cutL R p q)) (p := p) (q := q) hc hp (by omega) (by omega) (by omega) hM)
  have HJ : Hid (joinF (cutL R 0 p ++ addRs d (cutL R p q) ++ cutL R q (endOf 0 R)) [] 0 = runsOf (spliceL l p.toNat q.toNat (((l.drop p.toNat).take (q.toNat - p.toNat)).map fun v => wr64 (v + d)))) := Lib.hid (by
    have := join_parts l p.toNat q.toNat (addRs d (cutL R p q)) hMw (by omega) (by omega)
    rw [Int.toNat_of_nonneg hp, Int.toNat_of_nonneg (show 0 ≤ q by omega), ← hR, hMx] at this
    rw [hn, this]
    rfl)
  have HR := Lib.hid hR
  have HC := Lib.hid hc
  have HN := Lib.hid hn
  have cl1 := cut_length R 0 p
  have cl2 := cut_length R p q
  have cl4 := cut_length R q (endOf 0 R)
  clear h hR hc hn hM hMw hMx
  go_enter Try.func44, Try.ntmps44
  go_wp2_with fail
  refine (cut_any m R 0 p w hm HC.out (by omega) (by have := HN.out; omega) (by omega) (by have := HN.out; omega)).mono ?_
  rintro e w1 ⟨v1, rfl, o1, b1⟩
  have hm1 := hm.below b1
  obtain ⟨A1, c1, rfl, _, _⟩ := o1.shape
  have s1 := o1.sl encR_length
  go_wp2_with fail
  refine (cut_any m R p q w1 hm1 HC.out hp (by have := HN.out; omega) (by omega) (by have := HN.out; omega)).mono ?_
  rintro e w2 ⟨v2, rfl, o2, b2⟩
  have hm2 := hm1.below b2
  obtain ⟨A2, c2, rfl, _, _⟩ := o2.shape
  have s1k := s1
  have hm1k := hm1
  have s2 := s1.over b2
  have b02 : Below w.heap.size w w2 := b1.trans (b2.mono b1.size)
  clear s1 o1 hm1
  go_wp2_with fail
  refine (addF_any _ (cutL R p q) pd d w1.heap.size w2 o2 (cell_over h1 b02) (by have := World.block_lt_of_cell? _ _ h1; have := b1.size; exact Nat.lt_of_lt_of_le ‹_› this)).mono ?_
  rintro e w3 ⟨v3, rfl, o3, b3⟩
  have s3 := (s1k.below (b2.trans b3)).more (b2.trans b3).size
  have hm3 := hm1k.below (b2.trans b3)
  have b03 : Below w.heap.size w w3 := b1.trans ((b2.trans b3).mono b1.size)
  obtain ⟨A3, c3, rfl, _, _⟩ := o3.shape
  have s4 := o3.sl encR_length
  clear s2 o2 hm2 s1k hm1k
  go_wp2_with fail
  refine (len_any m R w3 hm3).mono ?_
  rintro e w4' ⟨rfl, k4, rfl⟩
  have bD := below_drewN (Below.refl w3.heap.size w3) k4
  have s3' := s3.over bD
  have s4' := s4.over bD
  have hm4 := hm3.drewN k4
  clear s3 s4 o3 hm3
  go_wp2_with fail
  refine (cut_any m R q (endOf 0 R) _ hm4 HC.out (by omega) (by have := HN.out; omega) (by omega) (by have := HN.out; omega)).mono ?_
  rintro e w5 ⟨v4, rfl, o5, b5⟩
  obtain ⟨A5, c5, rfl, _, _⟩ := o5.shape
  have b05 : Below w.heap.size w w5 := b03.trans ((bD.trans b5).mono b03.size)
  have hm5 := hm4.below b5
  have t1 := s3'.over b5
  have t3 := s4'.over b5
  have t4 := o5.sl encR_length
  clear s3' s4' o5 hm4 b5 bD
  obtain ⟨n1, hn1⟩ : ∃ n, n = (cutL R 0 p).length := ⟨_, rfl⟩
  obtain ⟨n3, hn3⟩ : ∃ n, n = (addRs d (cutL R p q)).length := ⟨_, rfl⟩
  obtain ⟨n5, hn5⟩ : ∃ n, n = (cutL R q (endOf 0 R)).length := ⟨_, rfl⟩
  rw [← hn1] at t1 cl1 ⊢
  rw [← hn3] at t3 cl3 ⊢
  rw [← hn5] at t4 cl4 ⊢
  obtain ⟨ps, hps⟩ : ∃ ps, ps = [((.slice A1 n1 c1 : Value), cutL R 0 p), (.slice A3 n3 c3, addRs d (cutL R p q)), (.slice A5 n5 c5, cutL R q (endOf 0 R))] := ⟨_, rfl⟩
  obtain ⟨W, hW⟩ : ∃ W : World, W = w5.alloc (.cells #[.slice A1 n1 c1, .slice A3 n3 c3, .slice A5 n5 c5] 28) := ⟨_, rfl⟩
  have bW : Below w5.heap.size w5 W := by rw [hW]; exact (Below.refl _ _).alloc (Nat.le_refl _) _
  have HG := Lib.hid (join_any w5.heap.size 3 ps (by rw [hps]; rfl) W (by rw [hW]; simp) (by rw [hps, lens3]; omega) (by omega)
    (fun i hi => by
      rw [hps] at hi
      have hi3 : i < 3 := hi
      have := cells_new w5 [.slice A1 n1 c1, .slice A3 n3 c3, .slice A5 n5 c5] 28
      rw [hW]
      simp only [hps]
      match i, hi3 with
      | 0, _ => exact this 0 _ rfl
      | 1, _ => exact this 1 _ rfl
      | 2, _ => exact this 2 _ rfl)
    (fun x hx => by
      rw [hps] at hx
      simp only [List.mem_cons, List.not_mem_nil, or_false] at hx
      rcases hx with rfl | rfl | rfl
      · exact t1.over bW
      · exact t3.over bW
      · exact t4.over bW)
    (by rw [hps, flat3]; exact HB.out))
  have HF : Hid (joinF (flatOf ps) [] 0 = runsOf (spliceL l p.toNat q.toNat (((l.drop p.toNat).take (q.toNat - p.toNat)).map fun v => wr64 (v + d)))) := Lib.hid (by rw [hps, flat3]; exact HJ.out)
  have hmW := hm5.below bW
  have b0W : Below w.heap.size w W := b05.trans (bW.mono b05.size)
  have HW := Lib.hid hW.symm
  clear hn1 hn3 hn5 hps hW t1 t3 t4 hm5 b05 bW
  go_wp2_with fail
  rw [HW.out]
  refine HG.out.mono ?_
  rintro e w6 ⟨v5, rfl, o6, b6⟩
  rw [HF.out] at o6
  have hm6 := hmW.below b6
  have b06 : Below w.heap.size w w6 := b0W.trans (b6.mono b0W.size)
  have HM : Hid (MapIs w6 m l) := Lib.hid (by rw [HR.out] at hm6; exact hm6)
  obtain ⟨A6, c6, rfl, _, _⟩ := o6.shape
  have HMS := Lib.hid (map_set HM.out (o6.sl encR_length))
  have HGR := Lib.hid (grown_trans (grown_below b06 (some m)) (grown_set (g := m) 0 (.slice A6 (runsOf (spliceL l p.toNat q.toNat (((l.drop p.toNat).take (q.toNat - p.toNat)).map fun v => wr64 (v + d)))).length c6)))
  obtain ⟨u, hu, A7, c7, rfl, _⟩ := hm6
  have cm := blk_cell hu 0
  have fm := blk_free hu 0
  obtain ⟨n6, hn6⟩ : ∃ n, n = (runsOf (spliceL l p.toNat q.toNat (((l.drop p.toNat).take (q.toNat - p.toNat)).map fun v => wr64 (v + d)))).length := ⟨_, rfl⟩
  rw [← hn6] at HMS HGR ⊢
  clear hu hn6 o6 hmW b6 b0W b06
  go_wp2
  go_end0
  exact ⟨rfl, HGR.out, HMS.out⟩
end Go.Proofs.Ytpcjklfdgjeamaa
