/- Walks: Key; the law's examples. -/
import Derived.Test.YtknnjnginmkblaaDoorW23
namespace Go.Proofs.YtknnjnginmkblaaDoor
open Go.RowKit

theorem bytesN_inj {s t : ByteArray} (h : bytesN s = bytesN t) : s = t := by
  have h1 : s.data.toList = t.data.toList := by
    have := congrArg (List.map UInt8.ofNat) h
    unfold bytesN at this
    rw [List.map_map, List.map_map] at this
    have hid : (UInt8.ofNat ∘ UInt8.toNat) = id := by funext b; simp
    rw [hid, List.map_id, List.map_id] at this
    exact this
  obtain ⟨⟨a⟩⟩ := s
  obtain ⟨⟨b⟩⟩ := t
  simp only at h1
  rw [h1]
theorem pts_ascii : ∀ (l : List Nat), (∀ b ∈ l, b < 128) → (pts l).isSome = true ∧ ptL l = l
  | [], _ => ⟨by rw [pts_nil]; rfl, ptL_nil⟩
  | c :: r, h => by
    have hd : dec1 (c :: r) = some (c, 1) := dec1_ascii (h c (by simp))
    obtain ⟨h1, h2⟩ := pts_ascii r (fun b hb => h b (by simp [hb]))
    have hv : (pts (c :: r)).isSome = true := by rw [pts_cons hd]; simpa using h1
    refine ⟨hv, ?_⟩
    rw [(pts_some hd hv).2]
    show c :: ptL r = _
    rw [h2]
theorem pts_front {l : List Nat} {p n : Nat} (hd : dec1 l = some (p, n)) (h : (pts (l.drop n)).isSome = true) : (pts l).isSome = true ∧ ptL l = p :: ptL (l.drop n) := by
  have hv : (pts l).isSome = true := by rw [pts_cons hd]; simpa using h
  exact ⟨hv, (pts_some hd hv).2⟩
/-- What Key answers. -/
def keyR (o : Opt) (s : ByteArray) : List Nat := if errC o [s] = 0 then keyL o.strength.toNat (bytesN s) (elS o s) else []

set_option maxRecDepth 100000 in
set_option maxHeartbeats 4000000 in
theorem Key_lib (s : ByteArray) (o : Opt) (w : World) :
    Calls Tryd.prog 15 #[.string s, optV o] w fun e w' => ∃ t : ByteArray, e = .returned (.tuple #[.string t, .int .i64 (errC o [s])]) ∧ bytesN t = keyR o s ∧ Below w.heap.size w w' := by
  have CK : Hid (∀ (v : Value) (w : World), Sl encS 1 w w.heap.size v [s] → Calls Tryd.prog 34 #[optV o, v] w fun e w' => e = .returned (.int .i64 (errC o [s])) ∧ Below w.heap.size w w') := Lib.hid (fun v w h => checkS_lib o v [s] w h)
  obtain ⟨E, hE⟩ : ∃ E, E = errC o [s] := ⟨_, rfl⟩
  rw [← hE] at CK ⊢
  by_cases h0 : E = 0
  · obtain ⟨hst, hok⟩ := errC_ok (hE.symm.trans h0)
    obtain ⟨hs1, hs2⟩ := hok s (by simp)
    have HR : Hid (keyL o.strength.toNat (bytesN s) (elS o s) = keyR o s) := Lib.hid (by unfold keyR; rw [← hE, if_pos h0])
    have CA : Hid (∀ w : World, Calls Tryd.prog 35 #[.string s, optV o] w fun e w' => ∃ t : ByteArray, e = .returned (.string t) ∧ bytesN t = keyR o s ∧ Below w.heap.size w w') := Lib.hid (fun w => by rw [← HR.out]; exact key_lib s o w hst hs1 hs2)
    obtain ⟨R, hR⟩ : ∃ R, R = keyR o s := ⟨_, rfl⟩
    rw [← hR] at CA ⊢
    clear hE hok hs1 hs2 hst HR hR
    subst h0
    obtain ⟨st, num, ign, up⟩ := o
    change Hid (∀ w : World, Calls Tryd.prog 35 #[.string s, .agg #[.int .i64 st, .bool num, .bool ign, .bool up]] w fun e w' => ∃ t : ByteArray, e = .returned (.string t) ∧ bytesN t = R ∧ Below w.heap.size w w') at CA
    change Hid (∀ (v : Value) (w : World), Sl encS 1 w w.heap.size v [s] → Calls Tryd.prog 34 #[.agg #[.int .i64 st, .bool num, .bool ign, .bool up], v] w fun e w' => e = .returned (.int .i64 0) ∧ Below w.heap.size w w') at CK
    show Calls Tryd.prog 15 #[.string s, .agg #[.int .i64 st, .bool num, .bool ign, .bool up]] w _
    go_enter Tryd.func15, Tryd.ntmps15
    go_wp2_with fail
    have B0 := Box.start w st num ign up
    have b0 : Below w.heap.size w (w.alloc (.cells #[.int .i64 st, .bool num, .bool ign, .bool up] 23)) := (Below.refl w.heap.size w).alloc (Nat.le_refl _) _
    have hz0 : (w.alloc (.cells #[.int .i64 st, .bool num, .bool ign, .bool up] 23)).heap.size = w.heap.size + 1 := by simp
    obtain ⟨w0, hw0⟩ : ∃ w0, w0 = w.alloc (.cells #[.int .i64 st, .bool num, .bool ign, .bool up] 23) := ⟨_, rfl⟩
    rw [← hw0] at B0 b0 hz0 ⊢
    clear hw0
    refine (CK.out _ _ ?_).mono ?_
    · have := Sl.fresh (enc := encS) (fun _ => rfl) w0 9 [s] (by simp [maxLen])
      rw [show (w0.alloc (Obj.cells #[Value.string s] 9)).heap.size = w0.heap.size + 1 from by simp]
      rw [hz0] at this ⊢
      exact this
    rintro e w1 ⟨rfl, b1⟩
    have b01 : Below w0.heap.size w0 (w0.alloc (Obj.cells #[Value.string s] 9)) := (Below.refl _ _).alloc (Nat.le_refl _) _
    have b1' : Below w0.heap.size w0 w1 := b01.trans (b1.mono b01.size)
    obtain ⟨c0, c1, c2, c3⟩ := B0.over b1'
    have bb1 : Below w.heap.size w w1 := b0.trans (b1'.mono b0.size)
    clear b1 b01 b1' b0 B0 CK
    go_wp2_with fail
    refine (CA.out _).mono ?_
    rintro e w2 ⟨t, rfl, ht, b2⟩
    have HT := Lib.hid ht
    have bb := bb1.trans (b2.mono bb1.size)
    clear ht b2 CA
    go_wp2_with fail
    go_ret2
    exact ⟨t, rfl, HT.out, bb⟩
  · have HR : Hid (bytesN ⟨#[]⟩ = keyR o s) := Lib.hid (by unfold keyR; rw [← hE, if_neg h0]; rfl)
    have d0 : (E != 0) = true := by simpa using h0
    obtain ⟨R, hRR⟩ : ∃ R, R = keyR o s := ⟨_, rfl⟩
    rw [← hRR] at HR ⊢
    clear hE h0 hRR
    obtain ⟨st, num, ign, up⟩ := o
    change Hid (∀ (v : Value) (w : World), Sl encS 1 w w.heap.size v [s] → Calls Tryd.prog 34 #[.agg #[.int .i64 st, .bool num, .bool ign, .bool up], v] w fun e w' => e = .returned (.int .i64 E) ∧ Below w.heap.size w w') at CK
    show Calls Tryd.prog 15 #[.string s, .agg #[.int .i64 st, .bool num, .bool ign, .bool up]] w _
    go_enter Tryd.func15, Tryd.ntmps15
    go_wp2_with fail
    have b0 : Below w.heap.size w (w.alloc (.cells #[.int .i64 st, .bool num, .bool ign, .bool up] 23)) := (Below.refl w.heap.size w).alloc (Nat.le_refl _) _
    have hz0 : (w.alloc (.cells #[.int .i64 st, .bool num, .bool ign, .bool up] 23)).heap.size = w.heap.size + 1 := by simp
    obtain ⟨w0, hw0⟩ : ∃ w0, w0 = w.alloc (.cells #[.int .i64 st, .bool num, .bool ign, .bool up] 23) := ⟨_, rfl⟩
    rw [← hw0] at b0 hz0 ⊢
    clear hw0
    refine (CK.out _ _ ?_).mono ?_
    · have := Sl.fresh (enc := encS) (fun _ => rfl) w0 9 [s] (by simp [maxLen])
      rw [show (w0.alloc (Obj.cells #[Value.string s] 9)).heap.size = w0.heap.size + 1 from by simp]
      rw [hz0] at this ⊢
      exact this
    rintro e w1 ⟨rfl, b1⟩
    have b01 : Below w0.heap.size w0 (w0.alloc (Obj.cells #[Value.string s] 9)) := (Below.refl _ _).alloc (Nat.le_refl _) _
    have bb : Below w.heap.size w w1 := b0.trans ((b01.trans (b1.mono b01.size)).mono b0.size)
    clear b1 b01 b0 CK
    go_wp2_with fail
    go_ret2
    exact ⟨⟨#[]⟩, rfl, HR.out, bb⟩

theorem known_1 : cmpR ⟨1, false, false, false⟩ ⟨#[195, 137, 108, 97, 110]⟩ ⟨#[101, 108, 97, 110]⟩ = 0 ∧ errC ⟨1, false, false, false⟩ [⟨#[195, 137, 108, 97, 110]⟩, ⟨#[101, 108, 97, 110]⟩] = 0 := by
  have hb1 : bytesN ⟨#[195, 137, 108, 97, 110]⟩ = [195, 137, 108, 97, 110] := rfl
  have hb2 : bytesN ⟨#[101, 108, 97, 110]⟩ = [101, 108, 97, 110] := rfl
  have a1 := pts_ascii [108, 97, 110] (by decide)
  have p1 := pts_front (l := [195, 137, 108, 97, 110]) (p := 201) (n := 2) (by decide) a1.1
  have p2 := pts_ascii [101, 108, 97, 110] (by decide)
  have e0 : errC ⟨1, false, false, false⟩ [⟨#[195, 137, 108, 97, 110]⟩, ⟨#[101, 108, 97, 110]⟩] = 0 := by
    unfold errC chkO
    simp only [chkS, hb1, hb2, p1.1, p2.1]
    decide
  refine ⟨?_, e0⟩
  unfold cmpR elS
  rw [if_pos e0, hb1, hb2, p1.2, p2.2]
  show cmpL 1 _ _ (elems _ (201 :: ptL [108, 97, 110])) _ = 0
  rw [a1.2]
  decide
theorem known_2 : cmpR ⟨2, true, false, false⟩ ⟨#[112, 97, 103, 101, 32, 57]⟩ ⟨#[112, 97, 103, 101, 32, 49, 48]⟩ = -1 ∧ errC ⟨2, true, false, false⟩ [⟨#[112, 97, 103, 101, 32, 57]⟩, ⟨#[112, 97, 103, 101, 32, 49, 48]⟩] = 0 := by
  have hb1 : bytesN ⟨#[112, 97, 103, 101, 32, 57]⟩ = [112, 97, 103, 101, 32, 57] := rfl
  have hb2 : bytesN ⟨#[112, 97, 103, 101, 32, 49, 48]⟩ = [112, 97, 103, 101, 32, 49, 48] := rfl
  have p1 := pts_ascii [112, 97, 103, 101, 32, 57] (by decide)
  have p2 := pts_ascii [112, 97, 103, 101, 32, 49, 48] (by decide)
  have e0 : errC ⟨2, true, false, false⟩ [⟨#[112, 97, 103, 101, 32, 57]⟩, ⟨#[112, 97, 103, 101, 32, 49, 48]⟩] = 0 := by
    unfold errC chkO
    simp only [chkS, hb1, hb2, p1.1, p2.1]
    decide
  refine ⟨?_, e0⟩
  unfold cmpR elS
  rw [if_pos e0, hb1, hb2, p1.2, p2.2]
  decide
theorem known_3 : keyR ⟨3, false, false, false⟩ ⟨#[97]⟩ = [0, 128, 0, 0, 0, 0, 0, 32, 0, 0, 2, 0] ∧ errC ⟨3, false, false, false⟩ [⟨#[97]⟩] = 0 := by
  have hb1 : bytesN ⟨#[97]⟩ = [97] := rfl
  have p1 := pts_ascii [97] (by decide)
  have e0 : errC ⟨3, false, false, false⟩ [⟨#[97]⟩] = 0 := by
    unfold errC chkO
    simp only [chkS, hb1, p1.1]
    decide
  refine ⟨?_, e0⟩
  unfold keyR elS
  rw [if_pos e0, hb1, p1.2]
  decide
theorem known_4 : cmpR ⟨3, false, false, true⟩ ⟨#[101, 108, 97, 110]⟩ ⟨#[69, 108, 97, 110]⟩ = 1 ∧ errC ⟨3, false, false, true⟩ [⟨#[101, 108, 97, 110]⟩, ⟨#[69, 108, 97, 110]⟩] = 0 := by
  have hb1 : bytesN ⟨#[101, 108, 97, 110]⟩ = [101, 108, 97, 110] := rfl
  have hb2 : bytesN ⟨#[69, 108, 97, 110]⟩ = [69, 108, 97, 110] := rfl
  have p1 := pts_ascii [101, 108, 97, 110] (by decide)
  have p2 := pts_ascii [69, 108, 97, 110] (by decide)
  have e0 : errC ⟨3, false, false, true⟩ [⟨#[101, 108, 97, 110]⟩, ⟨#[69, 108, 97, 110]⟩] = 0 := by
    unfold errC chkO
    simp only [chkS, hb1, hb2, p1.1, p2.1]
    decide
  refine ⟨?_, e0⟩
  unfold cmpR elS
  rw [if_pos e0, hb1, hb2, p1.2, p2.2]
  decide

set_option maxRecDepth 100000 in
set_option maxHeartbeats 4000000 in
theorem known_lib (w : World) : Calls Tryd.prog 16 #[] w fun e w' => e = .returned (.bool true) ∧ Below w.heap.size w w' := by
  have C1 : Hid (∀ w : World, Calls Tryd.prog 20 #[.string ⟨#[195, 137, 108, 97, 110]⟩, .string ⟨#[101, 108, 97, 110]⟩, .agg #[.int .i64 1, .bool false, .bool false, .bool false]] w fun e w' => e = .returned (.tuple #[.int .i64 0, .int .i64 0]) ∧ Below w.heap.size w w') := Lib.hid (fun w => by
    have h := compare_lib ⟨#[195, 137, 108, 97, 110]⟩ ⟨#[101, 108, 97, 110]⟩ ⟨1, false, false, false⟩ w
    rw [known_1.1, known_1.2] at h
    exact h)
  have C2 : Hid (∀ w : World, Calls Tryd.prog 20 #[.string ⟨#[112, 97, 103, 101, 32, 57]⟩, .string ⟨#[112, 97, 103, 101, 32, 49, 48]⟩, .agg #[.int .i64 2, .bool true, .bool false, .bool false]] w fun e w' => e = .returned (.tuple #[.int .i64 (-1), .int .i64 0]) ∧ Below w.heap.size w w') := Lib.hid (fun w => by
    have h := compare_lib ⟨#[112, 97, 103, 101, 32, 57]⟩ ⟨#[112, 97, 103, 101, 32, 49, 48]⟩ ⟨2, true, false, false⟩ w
    rw [known_2.1, known_2.2] at h
    exact h)
  have C3 : Hid (∀ w : World, Calls Tryd.prog 15 #[.string ⟨#[97]⟩, .agg #[.int .i64 3, .bool false, .bool false, .bool false]] w fun e w' => e = .returned (.tuple #[.string ⟨#[0, 128, 0, 0, 0, 0, 0, 32, 0, 0, 2, 0]⟩, .int .i64 0]) ∧ Below w.heap.size w w') := Lib.hid (fun w => by
    refine (Key_lib ⟨#[97]⟩ ⟨3, false, false, false⟩ w).mono ?_
    rintro e w' ⟨t, rfl, ht, hb⟩
    rw [known_3.1] at ht
    have : t = ⟨#[0, 128, 0, 0, 0, 0, 0, 32, 0, 0, 2, 0]⟩ := bytesN_inj (ht.trans rfl)
    subst this
    rw [known_3.2]
    exact ⟨rfl, hb⟩)
  have C4 : Hid (∀ w : World, Calls Tryd.prog 20 #[.string ⟨#[101, 108, 97, 110]⟩, .string ⟨#[69, 108, 97, 110]⟩, .agg #[.int .i64 3, .bool false, .bool false, .bool true]] w fun e w' => e = .returned (.tuple #[.int .i64 1, .int .i64 0]) ∧ Below w.heap.size w w') := Lib.hid (fun w => by
    have h := compare_lib ⟨#[101, 108, 97, 110]⟩ ⟨#[69, 108, 97, 110]⟩ ⟨3, false, false, true⟩ w
    rw [known_4.1, known_4.2] at h
    exact h)
  go_enter Tryd.func16, Tryd.ntmps16
  go_wp2_with fail
  refine (C1.out _).mono ?_
  rintro e w1 ⟨rfl, b1⟩
  go_wp2_with fail
  refine (C2.out _).mono ?_
  rintro e w2 ⟨rfl, b2⟩
  go_wp2_with fail
  refine (C3.out _).mono ?_
  rintro e w3 ⟨rfl, b3⟩
  go_wp2_with fail
  refine (C4.out _).mono ?_
  rintro e w4 ⟨rfl, b4⟩
  have bb : Below w.heap.size w w4 := ((b1.trans (b2.mono b1.size)).trans (b3.mono (Nat.le_trans b1.size b2.size))).trans (b4.mono (Nat.le_trans (Nat.le_trans b1.size b2.size) b3.size))
  clear b1 b2 b3 b4
  go_wp2_with fail
  go_ret
  exact ⟨ret_bool (by first | rfl | decide | simp), bb⟩
end Go.Proofs.YtknnjnginmkblaaDoor
