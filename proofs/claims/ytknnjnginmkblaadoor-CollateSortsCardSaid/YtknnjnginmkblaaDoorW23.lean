/- Walks: keys. -/
import Derived.Test.YtknnjnginmkblaaDoorW22
namespace Go.Proofs.YtknnjnginmkblaaDoor
open Go.RowKit

theorem strCells_eq (s : ByteArray) : Lib.strCells s = (bytesN s).flatMap encB := by
  unfold Lib.strCells bytesN
  rw [List.flatMap_map]
  induction s.data.toList with
  | nil => rfl
  | cons c r ih => simp only [List.map_cons, List.flatMap_cons, ih]; rfl
/-- 'out = append(out, s...)', s a string. -/
theorem wpList_text {w : World} {ops : Array Oper} {rest : List Oper} {o : Oper} {a : Act} {Q : Exit → Act → World → Prop} (hgd : o.guard = none) (sl x : Operand)
    (ho : o.op = .call { callee := .builtin .append, args := #[sl, x], argTypes := #[49, 9] })
    (base : Nat) (v : Value) (l : List Nat) (hs : a.eval sl = v) (hown : Own encB 1 5 w base v l) (s : ByteArray) (hx : a.eval x = .string s)
    (hlen : l.length + s.size ≤ 140737488355328) (hbase : base ≤ w.heap.size)
    (h : ∀ v' w', Own encB 1 5 w' base v' (l ++ bytesN s) → w.grownBy w' v.ownBlock → wpList Tryd.prog ops Q rest (a.put o.dst v') w') : wpList Tryd.prog ops Q (o :: rest) a w := by
  obtain ⟨i0, hi, hz0, hz1, hz2⟩ := info_parts info5
  refine Lib.wpList_append_own_string _ hgd sl x 49 9 ho base 5 i0 Tryd.underlying49 Tryd.underlying9 hi hz0 hz1 hz2 v l.length (l.flatMap encB) hs hown s hx (by simp only [maxLen]; omega) hlen hbase ?_
  intro v' w' hown' hg _
  refine h v' w' ?_ hg
  unfold Own
  rw [List.length_append, List.flatMap_append, bytesN_length, ← strCells_eq]
  exact hown'
/-- A slice of bytes of the call's own turned into a string. -/
theorem conv_bytes {w : World} {base : Nat} {v : Value} {L : List Nat} (h : Own encB 1 5 w base v L) (hL : ∀ b ∈ L, b < 256) (h0 : 0 < L.length) :
    ∃ t : ByteArray, (convert 49 9 v).run Tryd.prog w = .ok (.string t) w ∧ bytesN t = L := by
  obtain ⟨g, cap, cur, rfl, _, _, _, hcur, htk⟩ := h.row h0
  refine ⟨⟨(L.map UInt8.ofNat).toArray⟩, ?_, ?_⟩
  · have := run_convert_bytes_back (P := Tryd.prog) w 49 9 5 ⟨g, 0, none⟩ cap (L.map UInt8.ofNat) Tryd.underlying49 Tryd.underlying5 Tryd.underlying9 (fun j hj => by
      rw [List.length_map] at hj
      rw [addr_add, Nat.zero_add, cell_of_row w g j cur 5 _ hcur]
      have h1 := flatMap_get encB_length L j L[j] (List.getElem?_eq_getElem hj) 0 _ rfl
      rw [Nat.mul_one, Nat.add_zero, ← htk, List.getElem?_take] at h1
      split at h1
      · rw [← Array.getElem?_toList, h1]
        have hb := hL L[j] (List.getElem_mem hj)
        simp only [List.getElem_map]
        congr 2
        simp [UInt8.toNat_ofNat, Nat.mod_eq_of_lt hb]
      · cases h1)
    rw [List.length_map] at this
    exact this
  · unfold bytesN
    simp only [List.map_map]
    conv => rhs; rw [← List.map_id L]
    apply List.map_congr_left
    intro b hb
    simp [UInt8.toNat_ofNat, Nat.mod_eq_of_lt (hL b hb)]

set_option maxRecDepth 100000 in
set_option maxHeartbeats 1000000 in
theorem text_lib (base : Nat) (v lv : Value) (acc : List Nat) (s : ByteArray) (w : World) (hown : Own encB 1 5 w base v acc) (hbase : base ≤ w.heap.size) (hacc : acc.length ≤ 1000000) (hs : s.size ≤ 4096) :
    Calls Tryd.prog 69 #[v, .string s, lv] w fun e w' => ∃ v', e = .returned v' ∧ Own encB 1 5 w' base v' (acc ++ bytesN s) ∧ Below base w w' := by
  obtain ⟨A, c, hv, _⟩ := hown.shape
  go_enter Tryd.func69, Tryd.ntmps69
  go_wp2_with (at_builtin; go_loud (refine wpList_text rfl _ _ rfl base v acc rfl hown s rfl (by omega) hbase ?_; intro v2 w2 hO2 hg2; have hb2 : Below base w w2 := hown.belowG hbase hg2; clear hg2))
  go_ret
  exact ⟨_, rfl, hO2, hb2⟩

set_option maxRecDepth 100000 in
set_option maxHeartbeats 1000000 in
theorem level_lib (k : Int) (n : Nat) (w : World) :
    Calls Tryd.prog 68 #[.int .i64 k, .func (.func n) #[] #[]] w fun e w' => e = .returned (.func (.func 84) #[] #[.pointer (some ⟨w.heap.size + 1, 0, none⟩), .pointer (some ⟨w.heap.size, 0, none⟩)]) ∧
      w' = (w.alloc (.cells #[.int .i64 k] 3)).alloc (.cells #[.func (.func n) #[] #[]] 69) := by
  go_enter Tryd.func68, Tryd.ntmps68
  go_wp2_with fail
  go_ret
  exact ⟨rfl, rfl⟩

/-- What writers lays. -/
structure WrE (f p0 q0 p1 q1 p2 q2 : Nat) (w : World) : Prop where
  f0 : w.cell? ⟨f, 0, none⟩ = some (.func (.func 84) #[] #[.pointer (some ⟨p0, 0, none⟩), .pointer (some ⟨q0, 0, none⟩)])
  f1 : w.cell? ⟨f, 1, none⟩ = some (.func (.func 84) #[] #[.pointer (some ⟨p1, 0, none⟩), .pointer (some ⟨q1, 0, none⟩)])
  f2 : w.cell? ⟨f, 2, none⟩ = some (.func (.func 84) #[] #[.pointer (some ⟨p2, 0, none⟩), .pointer (some ⟨q2, 0, none⟩)])
  f3 : w.cell? ⟨f, 3, none⟩ = some (.func (.func 69) #[] #[])
  s0 : w.cell? ⟨q0, 0, none⟩ = some (.int .i64 3)
  o0 : w.cell? ⟨p0, 0, none⟩ = some (.func (.func 37) #[] #[])
  s1 : w.cell? ⟨q1, 0, none⟩ = some (.int .i64 2)
  o1 : w.cell? ⟨p1, 0, none⟩ = some (.func (.func 38) #[] #[])
  s2 : w.cell? ⟨q2, 0, none⟩ = some (.int .i64 1)
  o2 : w.cell? ⟨p2, 0, none⟩ = some (.func (.func 39) #[] #[])
theorem WrE.over {f p0 q0 p1 q1 p2 q2 : Nat} {w w' : World} (h : WrE f p0 q0 p1 q1 p2 q2 w) (hb : Below w.heap.size w w') : WrE f p0 q0 p1 q1 p2 q2 w' :=
  ⟨cell_over h.f0 hb, cell_over h.f1 hb, cell_over h.f2 hb, cell_over h.f3 hb, cell_over h.s0 hb, cell_over h.o0 hb, cell_over h.s1 hb, cell_over h.o1 hb, cell_over h.s2 hb, cell_over h.o2 hb⟩
theorem cell_keep {w : World} {g : Nat} {v : Value} (o : Obj) (h : w.cell? ⟨g, 0, none⟩ = some v) : (w.alloc o).cell? ⟨g, 0, none⟩ = some v := cell_over h ((Below.refl _ _).alloc (Nat.le_refl _) _)
theorem cell_one (w : World) (v : Value) (t : TypeId) : (w.alloc (.cells #[v] t)).cell? ⟨w.heap.size, 0, none⟩ = some v := cells_new w [v] t 0 v rfl
theorem wrE_new {w : World} {p0 q0 p1 q1 p2 q2 : Nat}
    (s0 : w.cell? ⟨q0, 0, none⟩ = some (.int .i64 3)) (o0 : w.cell? ⟨p0, 0, none⟩ = some (.func (.func 37) #[] #[])) (s1 : w.cell? ⟨q1, 0, none⟩ = some (.int .i64 2)) (o1 : w.cell? ⟨p1, 0, none⟩ = some (.func (.func 38) #[] #[]))
    (s2 : w.cell? ⟨q2, 0, none⟩ = some (.int .i64 1)) (o2 : w.cell? ⟨p2, 0, none⟩ = some (.func (.func 39) #[] #[])) :
    WrE w.heap.size p0 q0 p1 q1 p2 q2 (w.alloc (.cells #[.func (.func 84) #[] #[.pointer (some ⟨p0, 0, none⟩), .pointer (some ⟨q0, 0, none⟩)], .func (.func 84) #[] #[.pointer (some ⟨p1, 0, none⟩), .pointer (some ⟨q1, 0, none⟩)], .func (.func 84) #[] #[.pointer (some ⟨p2, 0, none⟩), .pointer (some ⟨q2, 0, none⟩)], .func (.func 69) #[] #[]] 87)) := by
  have hc := cells_new w [.func (.func 84) #[] #[.pointer (some ⟨p0, 0, none⟩), .pointer (some ⟨q0, 0, none⟩)], .func (.func 84) #[] #[.pointer (some ⟨p1, 0, none⟩), .pointer (some ⟨q1, 0, none⟩)], .func (.func 84) #[] #[.pointer (some ⟨p2, 0, none⟩), .pointer (some ⟨q2, 0, none⟩)], .func (.func 69) #[] #[]] 87
  exact ⟨hc 0 _ rfl, hc 1 _ rfl, hc 2 _ rfl, hc 3 _ rfl, cell_keep _ s0, cell_keep _ o0, cell_keep _ s1, cell_keep _ o1, cell_keep _ s2, cell_keep _ o2⟩
/-- What a level's writer keeps. -/
theorem level_at (k : Int) (n : Nat) (w : World) :
    Calls Tryd.prog 68 #[.int .i64 k, .func (.func n) #[] #[]] w fun e w' => ∃ p q : Nat, e = .returned (.func (.func 84) #[] #[.pointer (some ⟨p, 0, none⟩), .pointer (some ⟨q, 0, none⟩)]) ∧
      w'.cell? ⟨q, 0, none⟩ = some (.int .i64 k) ∧ w'.cell? ⟨p, 0, none⟩ = some (.func (.func n) #[] #[]) ∧ Below w.heap.size w w' := by
  refine (level_lib k n w).mono ?_
  rintro e w' ⟨rfl, rfl⟩
  have hz : (w.alloc (.cells #[.int .i64 k] 3)).heap.size = w.heap.size + 1 := by simp
  refine ⟨w.heap.size + 1, w.heap.size, rfl, cell_keep _ (cell_one w _ 3), ?_, ((Below.refl _ _).alloc (Nat.le_refl _) _).alloc (by simp) _⟩
  have := cell_one (w.alloc (.cells #[.int .i64 k] 3)) (.func (.func n) #[] #[]) 69
  rw [hz] at this
  exact this

set_option maxRecDepth 100000 in
set_option maxHeartbeats 1000000 in
theorem writers_lib (w : World) :
    Calls Tryd.prog 53 #[] w fun e w' => ∃ f p0 q0 p1 q1 p2 q2 : Nat, e = .returned (.slice (some ⟨f, 0, none⟩) 4 4) ∧ WrE f p0 q0 p1 q1 p2 q2 w' ∧ Below w.heap.size w w' := by
  go_enter Tryd.func53, Tryd.ntmps53
  go_wp2_with fail
  refine (level_at 3 37 _).mono ?_
  rintro e w1 ⟨p0, q0, rfl, s0, o0, b1⟩
  go_wp2_with fail
  refine (level_at 2 38 _).mono ?_
  rintro e w2 ⟨p1, q1, rfl, s1, o1, b2⟩
  have s0' := cell_over s0 b2
  have o0' := cell_over o0 b2
  go_wp2_with fail
  refine (level_at 1 39 _).mono ?_
  rintro e w3 ⟨p2, q2, rfl, s2, o2, b3⟩
  have HW := Lib.hid (wrE_new (cell_over s0' b3) (cell_over o0' b3) (cell_over s1 b3) (cell_over o1 b3) s2 o2)
  have bb : Below w.heap.size w w3 := b1.trans ((b2.mono b1.size).trans (b3.mono (Nat.le_trans b1.size b2.size)))
  clear s0 o0 s1 o1 s2 o2 s0' o0' b1 b2 b3
  go_wp2_with fail
  go_ret
  exact ⟨_, _, _, _, _, _, _, rfl, HW.out, bb.alloc bb.size _⟩

theorem lev_bytes : (∀ l, ∀ b ∈ lev3 l, b < 256) ∧ (∀ l, ∀ b ∈ lev2 l, b < 256) ∧ (∀ l, ∀ b ∈ lev1 l, b < 256) := by
  refine ⟨fun l b hb => ?_, fun l b hb => ?_, fun l b hb => ?_⟩
  · obtain ⟨x, _, hx⟩ := List.mem_flatMap.1 hb
    simp only [List.mem_cons, List.mem_nil_iff, or_false] at hx
    omega
  · obtain ⟨x, _, hx⟩ := List.mem_flatMap.1 hb
    simp only [List.mem_cons, List.mem_nil_iff, or_false] at hx
    omega
  · obtain ⟨x, _, hx⟩ := List.mem_flatMap.1 hb
    simp only [List.mem_cons, List.mem_nil_iff, or_false] at hx
    omega
theorem lev_lens (l : List El) : (lev3 l).length ≤ 3 * l.length + 3 ∧ 3 ≤ (lev3 l).length ∧ (lev2 l).length ≤ 2 * l.length + 2 ∧ (lev1 l).length ≤ l.length + 1 := by
  have e3 : lev3 l = (wts El.p l ++ [0]).flatMap enc3 := rfl
  have e2 : lev2 l = (wts El.s l ++ [0]).flatMap enc2 := rfl
  have e1 : lev1 l = (wts El.t l ++ [0]).flatMap enc1 := rfl
  have h3 := wts_len El.p l
  have h2 := wts_len El.s l
  have h1 := wts_len El.t l
  rw [e3, e2, e1, flat_len (n := 3) (fun _ => rfl), flat_len (n := 2) (fun _ => rfl), flat_len (n := 1) (fun _ => rfl), List.length_append, List.length_append, List.length_append, List.length_singleton]
  omega
theorem keyL_bytes {k : Nat} {s : List Nat} {l : List El} (hs : ∀ b ∈ s, b < 256) : ∀ b ∈ keyL k s l, b < 256 := by
  intro b hb
  unfold keyL at hb
  obtain ⟨h3, h2, h1⟩ := lev_bytes
  simp only [List.mem_append] at hb
  rcases hb with ((hb | hb) | hb) | hb
  · split at hb
    · exact h3 l b hb
    · simp at hb
  · split at hb
    · exact h2 l b hb
    · simp at hb
  · split at hb
    · exact h1 l b hb
    · simp at hb
  · split at hb
    · exact hs b hb
    · simp at hb
theorem keyL_len (k : Nat) (s : List Nat) (l : List El) : (keyL k s l).length ≤ 6 * l.length + 6 + s.length := by
  obtain ⟨h3, _, h2, h1⟩ := lev_lens l
  unfold keyL
  simp only [List.length_append]
  have g : ∀ (p : Prop) [Decidable p] (x : List Nat), (if p then x else []).length ≤ x.length := fun p _ x => by split <;> simp
  have a := g (1 ≤ k) (lev3 l)
  have b := g (2 ≤ k) (lev2 l)
  have c := g (3 ≤ k) (lev1 l)
  have d := g (4 ≤ k) s
  omega
theorem keyL_pos {k : Nat} (hk : 1 ≤ k) (s : List Nat) (l : List El) : 0 < (keyL k s l).length := by
  obtain ⟨_, h3, _⟩ := lev_lens l
  unfold keyL
  simp only [List.length_append]
  rw [if_pos hk]
  omega
theorem keyL_step (s : List Nat) (l : List El) : keyL 0 s l = [] ∧ keyL 1 s l = keyL 0 s l ++ lev3 l ∧ keyL 2 s l = keyL 1 s l ++ lev2 l ∧ keyL 3 s l = keyL 2 s l ++ lev1 l ∧ keyL 4 s l = keyL 3 s l ++ s := by
  unfold keyL
  simp

set_option maxRecDepth 100000 in
set_option maxHeartbeats 4000000 in
theorem key_lib (s : ByteArray) (o : Opt) (w : World) (hst : 1 ≤ o.strength ∧ o.strength ≤ 4) (hs1 : s.size ≤ 4096) (hs2 : (pts (bytesN s)).isSome = true) :
    Calls Tryd.prog 35 #[.string s, optV o] w fun e w' => ∃ t : ByteArray, e = .returned (.string t) ∧ bytesN t = keyL o.strength.toNat (bytesN s) (elS o s) ∧ Below w.heap.size w w' := by
  have CE : Hid (∀ w : World, Calls Tryd.prog 36 #[.string s, optV o] w (ElsE w (elS o s))) := Lib.hid (fun w => elements_lib s o w (by omega) hs2)
  have hlx := elS_len (o := o) hs1 hs2
  obtain ⟨x, hx⟩ : ∃ x, x = elS o s := ⟨_, rfl⟩
  rw [← hx] at CE hlx ⊢
  have HSL : Hid (∀ b ∈ bytesN s, b < 256) := Lib.hid (bytesN_lt s)
  obtain ⟨L, hL⟩ : ∃ L, L = bytesN s := ⟨_, rfl⟩
  have hLl : L.length ≤ 4096 := by rw [hL, bytesN_length]; exact hs1
  have HLE := Lib.hid hL
  rw [← hL] at HSL ⊢
  clear hx hs2 hL
  obtain ⟨st, num, ign, up⟩ := o
  obtain ⟨K, hK⟩ : ∃ K : Nat, st = (K : Int) := ⟨st.toNat, by have := hst.1; simp only at this; omega⟩
  subst hK
  have hK1 : 1 ≤ K := by have := hst.1; simp only at this; omega
  have hK4 : K ≤ 4 := by have := hst.2; simp only at this; omega
  clear hst
  have e0 : ((⟨(K : Int), num, ign, up⟩ : Opt).strength).toNat = K := by simp
  rw [e0]
  clear e0
  change Hid (∀ w : World, Calls Tryd.prog 36 #[.string s, .agg #[.int .i64 (K : Int), .bool num, .bool ign, .bool up]] w (ElsE w x)) at CE
  show Calls Tryd.prog 35 #[.string s, .agg #[.int .i64 (K : Int), .bool num, .bool ign, .bool up]] w _
  go_enter Tryd.func35, Tryd.ntmps35
  go_wp2_with fail
  have B0 := Box.start w K num ign up
  have b0 : Below w.heap.size w (w.alloc (.cells #[.int .i64 (K : Int), .bool num, .bool ign, .bool up] 23)) := (Below.refl w.heap.size w).alloc (Nat.le_refl _) _
  obtain ⟨w0, hw0⟩ : ∃ w0, w0 = w.alloc (.cells #[.int .i64 (K : Int), .bool num, .bool ign, .bool up] 23) := ⟨_, rfl⟩
  rw [← hw0] at B0 b0 ⊢
  clear hw0
  refine (CE.out _).mono ?_
  rintro e w1 ⟨vx, rfl, hsx, b1⟩
  have B1 := B0.over b1
  have b1' : Below w.heap.size w w1 := b0.trans (b1.mono b0.size)
  clear b1 b0 B0 CE
  obtain ⟨c0, c1, c2, c3⟩ := B1
  have C0 : Hid (w1.drew.cell? ⟨w.heap.size, 0, none⟩ = some (.int .i64 (K : Int))) := Lib.hid c0
  have k1 : (0 : Int) ≤ K := by omega
  have k2 : (K : Int) ≤ 4 := by omega
  go_upto_region 3 with fail
  go_cut [15, 16, 17] from 9 to 28 (fun v15 v16 v17 wx => ∃ f p0 q0 p1 q1 p2 q2 : Nat, v15 = .slice (some ⟨f, 0, none⟩) K 4 ∧ v16 = .int .i64 K ∧ v17 = .int .i64 0 ∧ WrE f p0 q0 p1 q1 p2 q2 wx ∧ Below w1.heap.size w1 wx)
  case first =>
    refine wp_region_noPanic ?_
    go_region_with (go_at_call 53; ((with_reducible refine (writers_lib _).mono ?_); rintro e wx1 ⟨f, p0, q0, p1, q1, p2, q2, rfl, HW, bx1⟩; have c0' := cell_over C0.out bx1; have HW' := Lib.hid HW; clear HW))
    all_goals (
      refine NoPanic.normal ?_
      have bb2 : Below w1.heap.size w1 wx1 := (Below.refl w1.heap.size w1).drew.trans bx1
      clear bx1 c0 c1 c2 c3 c0' C0
      go_wp2_with fail
      go_meet
      exact ⟨f, p0, q0, p1, q1, p2, q2, rfl, rfl, rfl, HW'.out, bb2⟩)
  case rest =>
    obtain ⟨f, p0, q0, p1, q1, p2, q2, rfl, rfl, rfl, HW, bw⟩ := hcut
    have HWW := Lib.hid HW
    have HX : Hid (Sl encE 3 wc wc.heap.size vx x) := Lib.hid (hsx.over bw)
    have bb : Below w.heap.size w wc := b1'.trans (bw.mono b1'.size)
    clear hsx bw b1' c0 c1 c2 c3 C0 HW
    go_wp2_with fail
    go_loopw [6, 17] (fun bv iv wr => ∃ i : Nat, i ≤ K ∧ iv = .int .i64 i ∧ Own encB 1 5 wr wc.heap.size bv (keyL i L x) ∧ Below wc.heap.size wc wr) (fun _ iv _ => K - (intOf iv).toNat)
    case atStart => exact ⟨0, Nat.zero_le _, rfl, by rw [(keyL_step L x).1]; exact Own.nil _ _, Below.refl _ _⟩
    case round =>
      obtain ⟨i, hi, rfl, hown, hb⟩ := hrel
      have hbz := hb.size
      by_cases hlt : i < K
      · have hlt' : (i : Int) < K := by omega
        have HR := HWW.out.over hb
        have hkl := keyL_len i L x
        have hi4 : i = 0 ∨ i = 1 ∨ i = 2 ∨ i = 3 := by omega
        rcases hi4 with rfl | rfl | rfl | rfl
        · have CL := Lib.hid (level_3 wc.heap.size p0 q0 _ vx (keyL 0 L x) s x wr hown hbz (HX.out.below hb) hlx (by omega) HR.o0 HR.s0 (World.block_lt_of_cell? _ _ HWW.out.o0) (World.block_lt_of_cell? _ _ HWW.out.s0))
          have fc := HR.f0
          rw [← (keyL_step L x).2.1] at CL
          clear hown HR
          go_wp2_with fail
          refine CL.out.mono ?_
          rintro e w5 ⟨v5, rfl, hO5, hb5⟩
          have hb6 := hb.trans hb5
          clear CL hb5
          go_wp2_with fail
          go_roundw
          case rel => exact ⟨1, by omega, by first | rfl | go_num, hO5, hb6⟩
          case measure => simp [intOf]; omega
        · have CL := Lib.hid (level_2 wc.heap.size p1 q1 _ vx (keyL 1 L x) s x wr hown hbz (HX.out.below hb) hlx (by omega) HR.o1 HR.s1 (World.block_lt_of_cell? _ _ HWW.out.o1) (World.block_lt_of_cell? _ _ HWW.out.s1))
          have fc := HR.f1
          rw [← (keyL_step L x).2.2.1] at CL
          clear hown HR
          go_wp2_with fail
          refine CL.out.mono ?_
          rintro e w5 ⟨v5, rfl, hO5, hb5⟩
          have hb6 := hb.trans hb5
          clear CL hb5
          go_wp2_with fail
          go_roundw
          case rel => exact ⟨2, by omega, by first | rfl | go_num, hO5, hb6⟩
          case measure => simp [intOf]; omega
        · have CL := Lib.hid (level_1 wc.heap.size p2 q2 _ vx (keyL 2 L x) s x wr hown hbz (HX.out.below hb) hlx (by omega) HR.o2 HR.s2 (World.block_lt_of_cell? _ _ HWW.out.o2) (World.block_lt_of_cell? _ _ HWW.out.s2))
          have fc := HR.f2
          rw [← (keyL_step L x).2.2.2.1] at CL
          clear hown HR
          go_wp2_with fail
          refine CL.out.mono ?_
          rintro e w5 ⟨v5, rfl, hO5, hb5⟩
          have hb6 := hb.trans hb5
          clear CL hb5
          go_wp2_with fail
          go_roundw
          case rel => exact ⟨3, by omega, by first | rfl | go_num, hO5, hb6⟩
          case measure => simp [intOf]; omega
        · have CL := Lib.hid (text_lib wc.heap.size _ vx (keyL 3 L x) s wr hown hbz (by omega) hs1)
          have fc := HR.f3
          rw [← HLE.out, ← (keyL_step L x).2.2.2.2] at CL
          clear hown HR
          go_wp2_with fail
          refine CL.out.mono ?_
          rintro e w5 ⟨v5, rfl, hO5, hb5⟩
          have hb6 := hb.trans hb5
          clear CL hb5
          go_wp2_with fail
          go_roundw
          case rel => exact ⟨4, by omega, by first | rfl | go_num, hO5, hb6⟩
          case measure => simp [intOf]; omega
      · have hik : i = K := by omega
        subst hik
        obtain ⟨t, ht, htb⟩ := conv_bytes hown (keyL_bytes HSL.out) (keyL_pos hK1 _ _)
        have HTB := Lib.hid htb
        clear htb hown hlt
        go_wp2_with fail
        go_ret
        exact ⟨t, rfl, HTB.out, bb.trans (hb.mono bb.size)⟩
end Go.Proofs.YtknnjnginmkblaaDoor
