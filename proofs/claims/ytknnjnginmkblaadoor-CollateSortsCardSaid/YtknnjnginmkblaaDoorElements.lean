/- Walks: Elements; the law on elements. -/
import Derived.Test.YtknnjnginmkblaaDoorOrders
import Derived.Test.YtknnjnginmkblaaDoorR4
namespace Go.Proofs.YtknnjnginmkblaaDoor
open Go.RowKit

theorem BoxG.all {g : Nat} {st : Int} {num ign up : Bool} {w : World} (h : BoxG g st num ign up w) :
    w.cell? ⟨g, 0, none⟩ = some (.int .i64 st) ∧ w.cell? ⟨g, 1, none⟩ = some (.bool num) ∧ w.cell? ⟨g, 2, none⟩ = some (.bool ign) ∧ w.cell? ⟨g, 3, none⟩ = some (.bool up) ∧ BoxG g st num ign up w := ⟨h.1, h.2.1, h.2.2.1, h.2.2.2, h⟩
/-- What Elements answers. -/
def ElmE (w : World) (E : Int) (l : List El) (e : Ending) (w' : World) : Prop := ∃ v, e = .returned (.tuple #[v, .int .i64 E]) ∧ (E = 0 → Sl encE 3 w' w'.heap.size v l) ∧ (E ≠ 0 → v = .slice none 0 0) ∧ Below w.heap.size w w'
set_option maxRecDepth 100000 in
set_option maxHeartbeats 4000000 in
theorem Elements_lib (s : ByteArray) (o : Opt) (w : World) :
    Calls Tryd.prog 25 #[.string s, optV o] w (ElmE w (errC o [s]) (elS o s)) := by
  have CK : Hid (∀ (v : Value) (w : World), Sl encS 1 w w.heap.size v [s] → Calls Tryd.prog 34 #[optV o, v] w fun e w' => e = .returned (.int .i64 (errC o [s])) ∧ Below w.heap.size w w') := Lib.hid (fun v w h => checkS_lib o v [s] w h)
  obtain ⟨E, hE⟩ : ∃ E, E = errC o [s] := ⟨_, rfl⟩
  rw [← hE] at CK ⊢
  by_cases h0 : E = 0
  · obtain ⟨hst, hok⟩ := errC_ok (hE.symm.trans h0)
    obtain ⟨hs1, hs2⟩ := hok s (by simp)
    have CA : Hid (∀ w : World, Calls Tryd.prog 36 #[.string s, optV o] w (ElsE w (elS o s))) := Lib.hid (fun w => elements_lib s o w (by omega) hs2)
    obtain ⟨R, hR⟩ : ∃ R, R = elS o s := ⟨_, rfl⟩
    rw [← hR] at CA ⊢
    clear hE hok hs1 hs2 hst hR
    subst h0
    obtain ⟨st, num, ign, up⟩ := o
    change Hid (∀ w : World, Calls Tryd.prog 36 #[.string s, .agg #[.int .i64 st, .bool num, .bool ign, .bool up]] w (ElsE w R)) at CA
    change Hid (∀ (v : Value) (w : World), Sl encS 1 w w.heap.size v [s] → Calls Tryd.prog 34 #[.agg #[.int .i64 st, .bool num, .bool ign, .bool up], v] w fun e w' => e = .returned (.int .i64 0) ∧ Below w.heap.size w w') at CK
    show Calls Tryd.prog 25 #[.string s, .agg #[.int .i64 st, .bool num, .bool ign, .bool up]] w _
    go_enter Tryd.func25, Tryd.ntmps25
    go_wp2_with fail
    have B0 := Box.start w st num ign up
    have b0 : Below w.heap.size w (w.alloc (.cells #[.int .i64 st, .bool num, .bool ign, .bool up] 23)) := (Below.refl w.heap.size w).alloc (Nat.le_refl _) _
    have hz0 : (w.alloc (.cells #[.int .i64 st, .bool num, .bool ign, .bool up] 23)).heap.size = w.heap.size + 1 := by simp
    obtain ⟨w0, hw0⟩ : ∃ w0, w0 = w.alloc (.cells #[.int .i64 st, .bool num, .bool ign, .bool up] 23) := ⟨_, rfl⟩
    rw [← hw0] at B0 b0 hz0 ⊢
    clear hw0
    refine (CK.out _ _ ?_).mono ?_
    · have := Sl.fresh (enc := encS) (fun _ => rfl) w0 9 [s] (by simp [maxLen])
      rw [show (w0.alloc (Obj.cells #[Value.string s] 9)).heap.size = w0.heap.size + 1 from by simp]
      rw [hz0] at this ⊢
      exact this
    rintro e w1 ⟨rfl, b1⟩
    have b01 : Below w0.heap.size w0 (w0.alloc (Obj.cells #[Value.string s] 9)) := (Below.refl _ _).alloc (Nat.le_refl _) _
    have b1' : Below w0.heap.size w0 w1 := b01.trans (b1.mono b01.size)
    obtain ⟨c0, c1, c2, c3⟩ := B0.over b1'
    have bb1 : Below w.heap.size w w1 := b0.trans (b1'.mono b0.size)
    clear b1 b01 b1' b0 B0 CK
    go_wp2_with fail
    refine (CA.out _).mono ?_
    rintro e w2 ⟨t, rfl, ht, b2⟩
    have HT := Lib.hid ht
    have bb := bb1.trans (b2.mono bb1.size)
    clear ht b2 CA
    go_wp2_with fail
    go_ret2
    exact ⟨t, rfl, fun _ => HT.out, fun h => absurd rfl h, bb⟩
  · have HR := Lib.hid h0
    have d0 : (E != 0) = true := by simpa using h0
    obtain ⟨R, hRR⟩ : ∃ R, R = elS o s := ⟨_, rfl⟩
    rw [← hRR]
    clear hE h0 hRR
    obtain ⟨st, num, ign, up⟩ := o
    change Hid (∀ (v : Value) (w : World), Sl encS 1 w w.heap.size v [s] → Calls Tryd.prog 34 #[.agg #[.int .i64 st, .bool num, .bool ign, .bool up], v] w fun e w' => e = .returned (.int .i64 E) ∧ Below w.heap.size w w') at CK
    show Calls Tryd.prog 25 #[.string s, .agg #[.int .i64 st, .bool num, .bool ign, .bool up]] w _
    go_enter Tryd.func25, Tryd.ntmps25
    go_wp2_with fail
    have b0 : Below w.heap.size w (w.alloc (.cells #[.int .i64 st, .bool num, .bool ign, .bool up] 23)) := (Below.refl w.heap.size w).alloc (Nat.le_refl _) _
    have hz0 : (w.alloc (.cells #[.int .i64 st, .bool num, .bool ign, .bool up] 23)).heap.size = w.heap.size + 1 := by simp
    obtain ⟨w0, hw0⟩ : ∃ w0, w0 = w.alloc (.cells #[.int .i64 st, .bool num, .bool ign, .bool up] 23) := ⟨_, rfl⟩
    rw [← hw0] at b0 hz0 ⊢
    clear hw0
    refine (CK.out _ _ ?_).mono ?_
    · have := Sl.fresh (enc := encS) (fun _ => rfl) w0 9 [s] (by simp [maxLen])
      rw [show (w0.alloc (Obj.cells #[Value.string s] 9)).heap.size = w0.heap.size + 1 from by simp]
      rw [hz0] at this ⊢
      exact this
    rintro e w1 ⟨rfl, b1⟩
    have b01 : Below w0.heap.size w0 (w0.alloc (Obj.cells #[Value.string s] 9)) := (Below.refl _ _).alloc (Nat.le_refl _) _
    have bb : Below w.heap.size w w1 := b0.trans ((b01.trans (b1.mono b01.size)).mono b0.size)
    clear b1 b01 b0 CK
    go_wp2_with fail
    go_ret2
    exact ⟨_, rfl, fun h => absurd h HR.out, fun _ => rfl, bb⟩


set_option maxRecDepth 100000 in
set_option maxHeartbeats 8000000 in
theorem elements_any (A : ByteArray) (o : Opt) (w : World) :
    Calls Tryd.prog 10 #[.string A, optV o] w fun e w' => e = .returned (.bool true) ∧ Below w.heap.size w w' := by
  obtain ⟨a, ha⟩ : ∃ a, a = cutS A := ⟨_, rfl⟩
  have HA : Hid (∀ w : World, Calls Tryd.prog 14 #[.string A] w fun e w' => e = .returned (.string a) ∧ w = w') := Lib.hid (fun w => by rw [ha]; exact cut_lib A w)
  have hsz : a.size ≤ 200 := by rw [ha]; exact cutS_size A
  have hsz2 : ∀ s ∈ [a], s.size ≤ 4096 := fun s hs => by rw [List.mem_singleton.1 hs]; omega
  have CF : Hid (∀ (v : Value) (w : World), Sl encS 1 w w.heap.size v [a] → Calls Tryd.prog 17 #[optV o, v] w fun e w' => e = .returned (.int .i64 (errC o [a])) ∧ Below w.heap.size w w') := Lib.hid (fun v w h => fault_lib o v [a] w h hsz2)
  have CN : Hid (∀ (w : World), Calls Tryd.prog 17 #[optV o, .slice none 0 0] w fun e w' => e = .returned (.int .i64 (chkO o.strength)) ∧ Below w.heap.size w w') := Lib.hid (fun w => by
    have h := fault_lib o (.slice none 0 0) [] w (Sl.nil _ _) (by simp)
    have e0 : errC o [] = chkO o.strength := by unfold errC; split <;> simp_all [chkS]
    rw [e0] at h
    exact h)
  have CH := Lib.hid (check_lib o)
  have CE := Lib.hid (Elements_lib a o)
  have CO := Lib.hid (options_lib o)
  have CR : Hid (errC o [a] = 0 → ∀ w : World, Calls Tryd.prog 27 #[.string a, optV o] w (ElsE w (elS o a))) := Lib.hid (fun h w => relements_lib a o w (by omega) ((errC_ok h).2 a (by simp)).2)
  have CKN := Lib.hid known_lib
  have hel : errC o [a] = 0 → (elS o a).length ≤ 8192 := fun h => elS_len (by omega) ((errC_ok h).2 a (by simp)).2
  obtain ⟨E, hE⟩ : ∃ E, E = errC o [a] := ⟨_, rfl⟩
  obtain ⟨L, hL⟩ : ∃ L, L = elS o a := ⟨_, rfl⟩
  rw [← hE] at CF CE CR hel
  rw [← hL] at CE CR hel
  obtain ⟨ck, hck⟩ : ∃ ck, ck = chkO o.strength := ⟨_, rfl⟩
  rw [← hck] at CN CH
  clear ha hsz hsz2 hE hL hck
  obtain ⟨st, num, ign, up⟩ := o
  change Hid (∀ (v : Value) (w : World), Sl encS 1 w w.heap.size v [a] → Calls Tryd.prog 17 #[.agg #[.int .i64 st, .bool num, .bool ign, .bool up], v] w fun e w' => e = .returned (.int .i64 E) ∧ Below w.heap.size w w') at CF
  change Hid (∀ (w : World), Calls Tryd.prog 17 #[.agg #[.int .i64 st, .bool num, .bool ign, .bool up], .slice none 0 0] w fun e w' => e = .returned (.int .i64 ck) ∧ Below w.heap.size w w') at CN
  change Hid (∀ w : World, Calls Tryd.prog 26 #[.agg #[.int .i64 st, .bool num, .bool ign, .bool up]] w fun e w' => e = .returned (.int .i64 ck) ∧ Below w.heap.size w w') at CH
  change Hid (∀ w : World, Calls Tryd.prog 25 #[.string a, .agg #[.int .i64 st, .bool num, .bool ign, .bool up]] w (ElmE w E L)) at CE
  change Hid (∀ w : World, Calls Tryd.prog 19 #[.agg #[.int .i64 st, .bool num, .bool ign, .bool up]] w fun e w' => e = .returned (.agg #[.int .i64 st, .bool num, .bool ign, .bool up]) ∧ Below w.heap.size w w') at CO
  change Hid (E = 0 → ∀ w : World, Calls Tryd.prog 27 #[.string a, .agg #[.int .i64 st, .bool num, .bool ign, .bool up]] w (ElsE w L)) at CR
  show Calls Tryd.prog 10 #[.string A, .agg #[.int .i64 st, .bool num, .bool ign, .bool up]] w _
  go_enter Tryd.func10, Tryd.ntmps10
  go_wp2_with fail
  refine (HA.out _).mono ?_
  rintro e w1 ⟨rfl, rfl⟩
  have b1 : Below w.heap.size w (w.alloc (.cells #[.int .i64 st, .bool num, .bool ign, .bool up] 23)) := (Below.refl _ _).alloc (Nat.le_refl _) _
  have B1 : BoxG w.heap.size st num ign up (w.alloc (.cells #[.int .i64 st, .bool num, .bool ign, .bool up] 23)) := BoxG.new w st num ign up
  obtain ⟨w1, hw1⟩ : ∃ w1, w1 = w.alloc (.cells #[.int .i64 st, .bool num, .bool ign, .bool up] 23) := ⟨_, rfl⟩
  rw [← hw1] at b1 B1 ⊢
  clear hw1 HA
  obtain ⟨c0, c1, c2, c3⟩ := id B1
  go_wp2_with fail
  refine (CE.out _).mono ?_
  rintro e w2 ⟨vx, rfl, hx1, hx2, hb2⟩
  have B2 := B1.over hb2
  have b2 := b1.trans (hb2.mono b1.size)
  clear b1 B1 hb2 c0 c1 c2 c3 CE
  obtain ⟨c0, c1, c2, c3⟩ := id B2
  go_wp2_with fail
  go_region_held3 (fun w' => w'.cell? ⟨w.heap.size, 0, none⟩ = some (.int .i64 st) ∧ w'.cell? ⟨w.heap.size, 1, none⟩ = some (.bool num) ∧ w'.cell? ⟨w.heap.size, 2, none⟩ = some (.bool ign) ∧ w'.cell? ⟨w.heap.size, 3, none⟩ = some (.bool up) ∧ BoxG w.heap.size st num ign up w') (first
      | exact BoxG.all B2
      | (go_split_ands; exact BoxG.all (BoxG.over (by assumption) bk))
      | (go_split_ands; exact BoxG.all (BoxG.over (by assumption) bc2))
      | (go_split_ands; exact BoxG.all (BoxG.over (by assumption) bf)))
    (first
      | (go_at_call 16; (with_reducible refine (CKN.out _).mono ?_); rintro e wk ⟨rfl, bk⟩)
      | (go_at_call 26; (with_reducible refine (CH.out _).mono ?_); rintro e wc2 ⟨rfl, bc2⟩)
      | (go_at_call 17; (with_reducible refine (CN.out _).mono ?_); rintro e wf ⟨rfl, bf⟩))
  have bwf : Below w2.heap.size w2 wf := ((Below.refl w2.heap.size w2).drew.trans bk).trans ((bc2.mono bk.size).trans (bf.mono (Nat.le_trans bk.size bc2.size)))
  have BF := B2.over bwf
  have b3 := b2.trans (bwf.mono b2.size)
  have hsx : E = 0 → Sl encE 3 wf wf.heap.size vx L := fun h => (hx1 h).over bwf
  clear bk bc2 bf bwf b2 B2 c0 c1 c2 c3 hx1 CN CH CKN
  obtain ⟨c0, c1, c2, c3⟩ := id BF
  have hfs := Sl.fresh (enc := encS) (fun _ => rfl) wf 9 [a] (by simp [maxLen])
  by_cases h0 : E = 0
  · have HR := Lib.hid (CR.out h0)
    have hsx0 := hsx h0
    have hl := hel h0
    subst h0
    clear hx2 hsx hel CR
    go_wp2_with fail
    refine (CF.out _ _ ?_).mono ?_
    · rw [show (wf.alloc (Obj.cells #[Value.string a] 9)).heap.size = wf.heap.size + 1 from by simp]
      exact hfs
    rintro e w4 ⟨rfl, hb4⟩
    have b34 : Below wf.heap.size wf (wf.alloc (Obj.cells #[Value.string a] 9)) := (Below.refl _ _).alloc (Nat.le_refl _) _
    have b4' := b34.trans (hb4.mono b34.size)
    have B4 := BF.over b4'
    have b4 := b3.trans (b4'.mono b3.size)
    have hsx4 := hsx0.over b4'
    clear b34 hb4 b4' b3 CF c0 c1 c2 c3 BF hsx0 hfs
    obtain ⟨c0, c1, c2, c3⟩ := id B4
    go_wp2_with fail
    refine (CO.out _).mono ?_
    rintro e w5 ⟨rfl, hb5⟩
    have b5 := b4.trans (hb5.mono b4.size)
    have hsx5 := hsx4.over hb5
    clear hb5 b4 B4 c0 c1 c2 c3 hsx4 CO
    go_wp2_with fail
    refine (HR.out _).mono ?_
    rintro e w6 ⟨vy, rfl, hsy, hb6⟩
    have b6 := b5.trans (hb6.mono b5.size)
    have hsx6 := hsx5.over hb6
    clear hb6 b5 hsx5 HR
    obtain ⟨A1, q1, rfl, hl1, hm1, _⟩ := id hsx6
    obtain ⟨A2, q2, rfl, hl2, hm2, _⟩ := id hsy
    unfold maxLen at hm1 hm2
    obtain ⟨n, hn⟩ : ∃ n, n = L.length := ⟨_, rfl⟩
    have HN := Lib.hid hn
    have HX := Lib.hid hsx6
    have HY := Lib.hid hsy
    rw [← hn] at HX HY hl1 hl2 hl ⊢
    clear hsx6 hsy hn
    go_wp2_with fail
    go_loopw [9] (fun iv wr => ∃ k : Nat, k ≤ n ∧ iv = .int .i64 k ∧ Below w6.heap.size w6 wr) (fun iv _ => n - (intOf iv).toNat)
    case atStart => exact ⟨0, Nat.zero_le _, rfl, Below.refl _ _⟩
    case round =>
      obtain ⟨k, hk, rfl, hb⟩ := hrel
      by_cases hlt : k < n
      · have hlt' : (k : Int) < n := by omega
        obtain ⟨x, hx⟩ : ∃ x, L[k]? = some x := ⟨L[k]'(by rw [← HN.out]; exact hlt), by simp⟩
        obtain ⟨b, o, hA, _, d0, d1, d2⟩ := Els.at (HX.out.below hb) k x hx
        obtain ⟨b', o', hA', _, e0, e1, e2⟩ := Els.at (HY.out.below hb) k x hx
        subst hA hA'
        obtain ⟨xp, xs, xt⟩ := x
        simp only at d0 d1 d2 e0 e1 e2
        clear hx
        have ek : IntKind.i64.wrap ((k : Int) + 1) = (k : Int) + 1 := IntWalk.i64_in _ (by omega)
        have s0 : ((xp : Int) != (xp : Int)) = false := by simp
        have s1 : ((xs : Int) != (xs : Int)) = false := by simp
        have s2 : ((xt : Int) != (xt : Int)) = false := by simp
        go_wp2_with fail
        go_quiet (fail)
        have hbq := below_drewN hb nq
        go_wp2_with fail
        go_roundw
        case rel => exact ⟨k + 1, by omega, by go_num, hbq⟩
        case measure => simp [intOf]; omega
      · have bb := b6.trans (hb.mono b6.size)
        go_wp2_with fail
        go_ret
        exact ⟨rfl, bb⟩
  · have d0 : (E != 0) = true := by simpa using h0
    have hv := hx2 h0
    subst hv
    clear hx2 hsx hel CR h0
    go_wp2_with fail
    refine (CF.out _ _ ?_).mono ?_
    · rw [show (wf.alloc (Obj.cells #[Value.string a] 9)).heap.size = wf.heap.size + 1 from by simp]
      exact hfs
    rintro e w4 ⟨rfl, hb4⟩
    have b34 : Below wf.heap.size wf (wf.alloc (Obj.cells #[Value.string a] 9)) := (Below.refl _ _).alloc (Nat.le_refl _) _
    have b4 := b3.trans ((b34.trans (hb4.mono b34.size)).mono b3.size)
    clear b34 hb4 b3 CF c0 c1 c2 c3 BF hfs
    go_wp2_with fail
    go_ret
    exact ⟨ret_bool (by simp), b4⟩
end Go.Proofs.YtknnjnginmkblaaDoor
