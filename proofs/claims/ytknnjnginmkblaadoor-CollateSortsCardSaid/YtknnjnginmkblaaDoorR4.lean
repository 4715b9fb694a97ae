/- Walks: the reference's elements of a string. -/
import Derived.Test.YtknnjnginmkblaaDoorR2
import Derived.Test.YtknnjnginmkblaaDoorR3
import Derived.Test.YtknnjnginmkblaaDoorPl5
import Derived.Deep.RegionHeldLaw
namespace Go.Proofs.YtknnjnginmkblaaDoor
open Go.RowKit

theorem drop_at {P : List Nat} {k c : Nat} (h : P[k]? = some c) : P.drop k = c :: P.drop (k + 1) := by
  obtain ⟨h1, rfl⟩ := List.getElem?_eq_some_iff.1 h
  exact List.drop_eq_getElem_cons h1
theorem RunTo.stepL {P : List Nat} {num : Bool} {i k c : Nat} (h : RunTo P num i k) (hn : num = true) (hi : i ≤ k) (hk : P[k]? = some c) (hd : digB c = true) : RunTo P num i (k + 1) := by
  have hkl : k < P.length := (List.getElem?_eq_some_iff.1 hk).1
  refine ⟨.inl hn, ?_, ?_⟩
  · have ht : (P.take (k + 1)).drop i = (P.take k).drop i ++ [c] := by
      rw [List.take_add_one, hk, List.drop_append_of_le_length (by rw [List.length_take]; omega)]
      rfl
    rw [h.2.1, drop_at hk, List.takeWhile_cons_of_pos hd, ht, List.append_assoc]
    rfl
  · rw [h.2.2, drop_at hk, List.dropWhile_cons_of_pos hd]
theorem RunTo.stopL {P : List Nat} {num : Bool} {i k : Nat} (h : RunTo P num i k) (hn : num = true) (hi : i ≤ k) (hk : k = P.length ∨ ∃ c, P[k]? = some c ∧ digB c = false) : RunAt P num i k := by
  have ht : (P.drop k).takeWhile digB = [] ∧ (P.drop k).dropWhile digB = P.drop k := by
    rcases hk with hk | ⟨c, hk, hd⟩
    · rw [List.drop_eq_nil_of_le (by omega)]; exact ⟨rfl, rfl⟩
    · rw [drop_at hk, List.takeWhile_cons_of_neg (by rw [hd]; simp), List.dropWhile_cons_of_neg (by rw [hd]; simp)]; exact ⟨rfl, rfl⟩
  by_cases hik : k = i
  · refine .inl ⟨hik, ?_⟩
    rintro ⟨_, c, r, hc, hd⟩
    subst hik
    rw [hc, List.takeWhile_cons_of_pos hd] at ht
    exact absurd ht.1 (by simp)
  · exact .inr ⟨by omega, hn, by rw [h.2.1, ht.1, List.append_nil], by rw [h.2.2, ht.2]⟩
theorem RunAt.digitsL {P : List Nat} {o : Opt} {i k : Nat} (h : RunAt P o.num i k) (hik : i < k) (hk : k ≤ P.length) :
    elems o (P.drop i) = numberE ((P.take k).drop i) ++ elems o (P.drop k) ∧ (∀ c ∈ (P.take k).drop i, 48 ≤ c ∧ c ≤ 57) ∧ ((P.take k).drop i).length = k - i := by
  have hlen : ((P.take k).drop i).length = k - i := by rw [List.length_drop, List.length_take]; omega
  rcases h with ⟨h, _⟩ | ⟨_, hn, h1, h2⟩
  · omega
  have hd0 := List.drop_eq_getElem_cons (l := P) (i := i) (by omega)
  obtain ⟨c, hc⟩ : ∃ c, c = P[i]'(by omega) := ⟨_, rfl⟩
  obtain ⟨r, hr⟩ : ∃ r, r = P.drop (i + 1) := ⟨_, rfl⟩
  rw [← hc, ← hr] at hd0
  have hdc : digB c = true := by
    by_cases hd : digB c = true
    · exact hd
    · rw [hd0, List.takeWhile_cons_of_neg hd] at h1
      rw [← h1] at hlen
      simp at hlen
      omega
  rw [hd0] at h1 h2
  have hall := digs_all (c :: r)
  rw [h1] at hall
  rw [List.takeWhile_cons_of_pos hdc] at h1
  rw [List.dropWhile_cons_of_pos hdc] at h2
  rw [hd0, elems_num hn hdc, h1, h2]
  exact ⟨rfl, hall, hlen⟩
theorem Ints.sub {w : World} {B b o c n : Nat} {P : List Nat} (h : Sl encI 1 w B (.slice (some ⟨b, o, none⟩) n c) P) (i k : Nat) (hik : i < k) (hk : k ≤ P.length) :
    Sl encI 1 w B (.slice (some ⟨b, o + i, none⟩) (k - i) (c - i)) ((P.take k).drop i) := by
  have hlen : ((P.take k).drop i).length = k - i := by rw [List.length_drop, List.length_take]; omega
  obtain ⟨A', c', hv, h1, h2, h3⟩ := h
  injection hv with e1 e2 e3
  subst e3
  obtain ⟨b', o', hA, hb, hc⟩ := h3 (by omega)
  rw [hA] at e1
  injection e1 with e1
  injection e1 with e1 e2' _
  subst e1 e2'
  refine ⟨some ⟨b, o + i, none⟩, c - i, by rw [hlen], by omega, by omega, fun _ => ⟨b, o + i, rfl, hb, fun j y hy q u hu => ?_⟩⟩
  have hy2 : P[i + j]? = some y := by
    rw [List.getElem?_drop, List.getElem?_take] at hy
    split at hy
    · exact hy
    · cases hy
  have := hc (i + j) y hy2 q u hu
  rw [← this]
  congr 2
  omega

/-- 'append(out, l...)' as a step of a region that draws. -/
theorem step_app {α : Type} {enc : α → List Value} {P : Program} {w : World} {ops : Array Oper} {o : Oper} {a : Act} {K : Act → World → Prop} {Q : Exit → Act → World → Prop} {E0 : Prop}
    (hgd : o.guard = none) (s x : Operand) (t : TypeId)
    (ho : o.op = .call { callee := .builtin .append, args := #[s, x], argTypes := #[t, t] })
    (base : Nat) (E : TypeId) (i : TypeInfo) (z : Value) (sz bytes : Nat) (ht : P.underlying t = some (.slice E)) (hi : P.info? E = some i) (hz : i.zero = some z)
    (hsize : i.size = sz) (hby : i.bytes = bytes) (hzs : z.cells.size = sz) (hsz : 0 < sz) (he : ∀ x, (enc x).length = sz) (h1 : ∀ x, ∀ u ∈ enc x, u.oneCell' = true)
    (v : Value) (l : List α) (hs : a.eval s = v) (hown : Own enc sz E w base v l)
    (B : Nat) (vx : Value) (m : List α) (hx : a.eval x = vx) (hsl : Sl enc sz w B vx m)
    (hbytes : (l.length + m.length) * bytes ≤ 140737488355328) (hlen : l.length + m.length ≤ 140737488355328) (hbase : base ≤ w.heap.size)
    (h : ∀ v' w', Own enc sz E w' base v' (l ++ m) → w.grownBy w' v.ownBlock → K (a.put o.dst v') w') : if Region.wanted o (yielded ops a.tmps) = true then Oper.wp P o a w K Q else E0 := by
  have hw : Region.wanted o (yielded ops a.tmps) = true := by simp [Region.wanted, hgd]
  rw [if_pos hw]
  obtain ⟨A, c, rfl, hc1, hc2, hc3⟩ := hsl
  cases A with
  | none =>
    have hm : m = [] := by
      cases m with
      | nil => rfl
      | cons y r =>
        obtain ⟨b, o, hA, _⟩ := hc3 (by simp)
        cases hA
    subst hm
    have hr := run_append_no (P := P) w base t o.type E i sz ht hi v l.length c (l.flatMap enc) hown
    unfold Oper.wp execOp
    simp only [ho, resolve, invoke, builtin, Sem.run_bind, Sem.run_pure, Result.andThen_ok, List.map_toArray, List.map_cons, List.map_nil, hs, hx, List.length_nil, hr]
    exact h v w (by rw [List.append_nil]; exact hown) (grown_refl _ _)
  | some ad =>
    refine wp_append_own w s x t ho base E i z sz bytes ht hi hz hsize hby hzs hsz v l.length (l.flatMap enc) hs hown ad m.length c (m.flatMap enc) hx (flatMap_length he m) ?_ ?_ ?_ hbytes hbase ?_
    · intro j u hu
      have hj : j < m.length * sz := by rw [← flatMap_length he]; exact (List.getElem?_eq_some_iff.1 hu).1
      have hm0 : 0 < m.length := by
        rcases Nat.eq_zero_or_pos m.length with h0 | h0
        · rw [h0, Nat.zero_mul] at hj; omega
        · exact h0
      obtain ⟨b, of, hA, _, hcell⟩ := hc3 hm0
      cases hA
      have hq : j / sz < m.length := Nat.div_lt_of_lt_mul (by rw [Nat.mul_comm]; exact hj)
      have hr : j % sz < sz := Nat.mod_lt _ hsz
      have hget := flatMap_get he m (j / sz) m[j / sz] (List.getElem?_eq_getElem hq) (j % sz) ((enc m[j / sz])[j % sz]'(by rw [he]; exact hr)) (List.getElem?_eq_getElem _)
      have hsum : j / sz * sz + j % sz = j := by rw [Nat.mul_comm]; exact Nat.div_add_mod j sz
      rw [hsum, hu] at hget
      have h2 := hcell (j / sz) m[j / sz] (List.getElem?_eq_getElem hq) (j % sz) ((enc m[j / sz])[j % sz]'(by rw [he]; exact hr)) (List.getElem?_eq_getElem _)
      rw [addr_add, hget, ← h2]
      congr 2
      rw [Nat.add_assoc, hsum]
    · intro u hu
      obtain ⟨y, _, hy⟩ := List.mem_flatMap.1 hu
      exact h1 y u hy
    · simp only [maxLen]; omega
    · intro v' w' hown' hg _
      refine h v' w' ?_ hg
      unfold Own
      rw [List.length_append, List.flatMap_append]
      exact hown'
/-- What the region of one code point loads. -/
def KeepP (W : World) (st : Int) (num ign up : Bool) (d : Addr) (u : Value) (w : World) : Prop := Box W st num ign up w ∧ w.cell? d = some u
theorem KeepP.all {W : World} {st : Int} {num ign up : Bool} {d : Addr} {u : Value} {w : World} (h : KeepP W st num ign up d u w) :
    w.cell? ⟨W.heap.size, 0, none⟩ = some (.int .i64 st) ∧ w.cell? ⟨W.heap.size, 1, none⟩ = some (.bool num) ∧ w.cell? ⟨W.heap.size, 2, none⟩ = some (.bool ign) ∧ w.cell? ⟨W.heap.size, 3, none⟩ = some (.bool up) ∧ w.cell? d = some u ∧ KeepP W st num ign up d u w :=
  ⟨h.1.1, h.1.2.1, h.1.2.2.1, h.1.2.2.2, h.2, h⟩
theorem KeepP.over {W : World} {st : Int} {num ign up : Bool} {d : Addr} {u : Value} {w w' : World} (h : KeepP W st num ign up d u w) (hb : Below w.heap.size w w') : KeepP W st num ign up d u w' := ⟨h.1.over hb, cell_over h.2 hb⟩
theorem KeepP.base {W : World} {st : Int} {num ign up : Bool} {d : Addr} {u : Value} {w w' : World} {B : Nat} (h : KeepP W st num ign up d u w) (h1 : W.heap.size < B) (h2 : d.block < B) (hb : Below B w.drew w') : KeepP W st num ign up d u w' :=
  ⟨⟨(hb.cell (p := ⟨W.heap.size, 0, none⟩) h1).trans h.1.1, (hb.cell (p := ⟨W.heap.size, 1, none⟩) h1).trans h.1.2.1, (hb.cell (p := ⟨W.heap.size, 2, none⟩) h1).trans h.1.2.2.1, (hb.cell (p := ⟨W.heap.size, 3, none⟩) h1).trans h.1.2.2.2⟩, (hb.cell (p := d) h2).trans h.2⟩

set_option maxRecDepth 100000 in
set_option maxHeartbeats 8000000 in
theorem relements_lib (s : ByteArray) (o : Opt) (w : World) (hs : s.size ≤ 4096) (hv : (pts (bytesN s)).isSome = true) :
    Calls Tryd.prog 27 #[.string s, optV o] w (ElsE w (elS o s)) := by
  obtain ⟨i0, hi, hz0, hz1, hz2⟩ := info_parts info59
  have CP := Lib.hid (fun w : World => points_lib s w (by omega))
  have hPl := ptL_len _ (bytesN s) (Nat.le_refl _) hv
  rw [bytesN_length] at hPl
  have hPb := ptL_bd _ (bytesN s) (Nat.le_refl _) (bytesN_lt s) hv
  rw [hv] at CP
  obtain ⟨P, hP⟩ : ∃ P, P = ptL (bytesN s) := ⟨_, rfl⟩
  have hL0 : elS o s = elems o P := by rw [hP]; rfl
  rw [← hP] at CP hPl hPb
  obtain ⟨L, hL⟩ : ∃ L, L = elS o s := ⟨_, rfl⟩
  rw [← hL] at hL0 ⊢
  obtain ⟨n, hn⟩ : ∃ n, n = P.length := ⟨_, rfl⟩
  have hn4 : n ≤ 4096 := by omega
  have HN := Lib.hid hn
  have HPB := Lib.hid hPb
  obtain ⟨st, num, ign, up⟩ := o
  have HL0 : Hid (L = elems ⟨st, num, ign, up⟩ (P.drop 0)) := Lib.hid hL0
  show Calls Tryd.prog 27 #[.string s, .agg #[.int .i64 st, .bool num, .bool ign, .bool up]] w (ElsE w L)
  clear hP hL hL0 hPl hPb hn hv hs
  go_enter Tryd.func27, Tryd.ntmps27
  go_wp2_with fail
  have B0 := Box.start31 w st num ign up
  have b0 : Below w.heap.size w (w.alloc (.cells #[.int .i64 st, .bool num, .bool ign, .bool up] 31)) := (Below.refl w.heap.size w).alloc (Nat.le_refl _) _
  obtain ⟨w0, hw0⟩ : ∃ w0, w0 = w.alloc (.cells #[.int .i64 st, .bool num, .bool ign, .bool up] 31) := ⟨_, rfl⟩
  rw [← hw0] at B0 b0 ⊢
  clear hw0
  refine (CP.out _).mono ?_
  rintro e w1 ⟨pv, sv, rfl, hpo, b1⟩
  have hsl := (hpo rfl).sl encI_length
  have BB := Lib.hid (B0.over b1)
  have b1' : Below w.heap.size w w1 := b0.trans (b1.mono b0.size)
  clear hpo b1 b0 B0 CP
  obtain ⟨A, c, rfl, hlc, hcm, _⟩ := id hsl
  unfold maxLen at hcm
  have HS := Lib.hid hsl
  rw [← HN.out] at HS hlc ⊢
  clear hsl
  go_wp2_with fail
  go_loopw [8, 9] (fun ov iv wr => ∃ (i : Nat) (acc : List El), i ≤ n ∧ iv = .int .i64 i ∧ Hid (L = acc ++ elems ⟨st, num, ign, up⟩ (P.drop i)) ∧ acc.length ≤ 2 * i ∧ Own encE 3 59 wr w1.heap.size ov acc ∧ Below w1.heap.size w1 wr) (fun _ iv _ => n - (intOf iv).toNat)
  case atStart => exact ⟨0, [], Nat.zero_le _, rfl, HL0, by simp, Own.nil _ _, Below.refl _ _⟩
  case round =>
    obtain ⟨i, acc, hi1, rfl, HA, hal, hown, hb⟩ := hrel
    clear HL0
    have hbz := hb.size
    by_cases hlt : i < n
    · have hlt' : (i : Int) < n := by omega
      obtain ⟨c0, c1, c2, c3⟩ := BB.out.over hb
      have HSr := Lib.hid (Sl.below HS.out hb)
      obtain ⟨p, hp⟩ : ∃ p, P[i]? = some p := ⟨P[i]'(by rw [← HN.out]; exact hlt), by simp⟩
      obtain ⟨b, o, hA, hbB, d0⟩ := Ints.at HSr.out i p hp
      subst hA
      have HPi := Lib.hid hp
      clear hp
      go_upto_block 2 with fail
      go_cut [10] from 17 to 59 (fun kv wx => ∃ k : Nat, kv = .int .i64 k ∧ i ≤ k ∧ k ≤ n ∧ wx = wr ∧ Hid (RunAt P num i k))
      case first =>
        go_wp2_with fail
        go_loop [10] (fun kv => ∃ k : Nat, kv = .int .i64 k ∧ i ≤ k ∧ k ≤ n ∧ Hid (RunTo P num i k)) (fun kv => n - (intOf kv).toNat)
        case atStart => exact ⟨i, rfl, Nat.le_refl _, hi1, Lib.hid (RunTo.start _ _ _)⟩
        case round =>
          obtain ⟨k, rfl, hk1, hk2, HR⟩ := hrel
          cases hnn : num with
          | false =>
            subst hnn
            have HSt : Hid (RunAt P false i k) := Lib.hid (HR.out.off rfl)
            clear HR
            go_wp2_with fail
            go_meet
            exact ⟨k, rfl, hk1, hk2, rfl, HSt⟩
          | true =>
            subst hnn
            by_cases hks : k < n
            · have hks' : (k : Int) < n := by omega
              obtain ⟨x, hx⟩ : ∃ x, P[k]? = some x := ⟨P[k]'(by rw [← HN.out]; exact hks), by simp⟩
              obtain ⟨b', o', hA', _, e0⟩ := Ints.at HSr.out k x hx
              injection hA' with hA'
              injection hA' with q1 q2 _
              subst q1 q2
              have CD := Lib.hid (isDigit_lib x)
              cases hdx : digB x with
              | true =>
                rw [hdx] at CD
                have HN2 : Hid (RunTo P true i (k + 1)) := Lib.hid (HR.out.stepL rfl hk1 hx hdx)
                have ek : IntKind.i64.wrap ((k : Int) + 1) = (k : Int) + 1 := IntWalk.i64_in _ (by omega)
                clear HR hx hdx
                go_wp2_with fail
                refine (CD.out _).mono ?_
                rintro e wd ⟨rfl, rfl⟩
                go_wp2_with fail
                go_round
                case rel => exact ⟨k + 1, by go_num, by omega, by omega, HN2⟩
                case measure => simp [intOf]; omega
              | false =>
                rw [hdx] at CD
                have HSt : Hid (RunAt P true i k) := Lib.hid (HR.out.stopL rfl hk1 (.inr ⟨x, hx, hdx⟩))
                clear HR hx hdx
                go_wp2_with fail
                refine (CD.out _).mono ?_
                rintro e wd ⟨rfl, rfl⟩
                go_wp2_with fail
                go_meet
                exact ⟨k, rfl, hk1, hk2, rfl, HSt⟩
            · have HSt : Hid (RunAt P true i k) := Lib.hid (HR.out.stopL rfl hk1 (.inl (by rw [← HN.out]; omega)))
              clear HR
              go_wp2_with fail
              go_meet
              exact ⟨k, rfl, hk1, hk2, rfl, HSt⟩
      case rest =>
        obtain ⟨k, rfl, hk1, hk2, rfl, HR⟩ := hcut
        by_cases hik : i < k
        · obtain ⟨hE, hR, hrl⟩ := RunAt.digitsL (o := ⟨st, num, ign, up⟩) HR.out hik (by rw [← HN.out]; exact hk2)
          have hsub := Ints.sub HSr.out i k hik (by rw [← HN.out]; exact hk2)
          obtain ⟨R, hRR⟩ : ∃ R, R = (P.take k).drop i := ⟨_, rfl⟩
          rw [← hRR] at hE hR hrl hsub
          have hR0 : R ≠ [] := by intro h; rw [h] at hrl; simp at hrl; omega
          have HA2 : Hid (L = (acc ++ numberE R) ++ elems ⟨st, num, ign, up⟩ (P.drop k)) := Lib.hid (by rw [HA.out, hE, List.append_assoc])
          have CN := Lib.hid (number_lib _ R wc (hsub.more hb.size) hR0 hR (by omega))
          have hNl := numberE_len R
          obtain ⟨X, hX⟩ : ∃ X, X = numberE R := ⟨_, rfl⟩
          rw [← hX] at HA2 CN hNl
          have q1 : (i : Int) ≤ k := by omega
          have q2 : (k : Int) ≤ c := by omega
          have q3 : ¬ c = i := by omega
          have q4 : i < c := by omega
          have q5 : (i : Int) < k := by omega
          clear hE hR hsub hRR hR0 HA HR hX
          go_wp2_with fail
          refine CN.out.mono ?_
          rintro e w2 ⟨vx, rfl, hsx, hb2⟩
          have hO2 := hown.over hb2
          have hb3 : Below w1.heap.size w1 w2 := hb.trans (hb2.mono hbz)
          have hbz3 := hb3.size
          clear hb2 CN
          go_wp2_with (at_builtin; go_loud (refine wpList_app _ rfl _ _ 55 rfl w1.heap.size 59 i0 _ 3 24 Tryd.underlying55 hi hz0 hz1 hz2 rfl (by decide) encE_length encE_each _ acc rfl hO2 w2.heap.size vx X rfl hsx (by omega) (by omega) hbz3 ?_; intro v3 w3 hown3 hg3; have hb4 : Below w1.heap.size w1 w3 := hb3.trans (hO2.belowG hbz3 hg3); clear hg3))
          go_roundw
          case rel => exact ⟨k, acc ++ X, hk2, rfl, HA2, by rw [List.length_append]; omega, hown3, hb4⟩
          case measure => simp [intOf]; omega
        · have hki : k = i := by omega
          subst hki
          have hpe : elems ⟨st, num, ign, up⟩ (P.drop k) = pointE p ⟨st, num, ign, up⟩ ++ elems ⟨st, num, ign, up⟩ (P.drop (k + 1)) := by
            rcases HR.out with h | h
            · rw [drop_at HPi.out]
              refine elems_point fun ⟨h1, h2⟩ => h.2 ⟨h1, p, _, drop_at HPi.out, h2⟩
            · exact absurd h.1 hik
          have HA2 : Hid (L = (acc ++ pointE p ⟨st, num, ign, up⟩) ++ elems ⟨st, num, ign, up⟩ (P.drop (k + 1))) := Lib.hid (by rw [HA.out, hpe, List.append_assoc])
          have CQ := Lib.hid (fun w : World => rpoint_lib p ⟨st, num, ign, up⟩ w (HPB.out p (List.mem_of_getElem? HPi.out)))
          have hXl := point_len p ⟨st, num, ign, up⟩
          obtain ⟨X, hX⟩ : ∃ X, X = pointE p ⟨st, num, ign, up⟩ := ⟨_, rfl⟩
          rw [← hX] at HA2 CQ hXl
          change Hid (∀ w : World, Calls Tryd.prog 47 #[.int .i64 (p : Int), .agg #[.int .i64 st, .bool num, .bool ign, .bool up]] w (ElsE w X)) at CQ
          have ek : IntKind.i64.wrap ((k : Int) + 1) = (k : Int) + 1 := IntWalk.i64_in _ (by omega)
          clear hpe HA HR hX hik
          go_upto_region 11 with fail
          have hKP : KeepP w st num ign up ⟨b, o + k, none⟩ (.int .i64 (p : Int)) wc := ⟨⟨c0, c1, c2, c3⟩, d0⟩
          have hW1 : w.heap.size < w1.heap.size := World.block_lt_of_cell? _ _ BB.out.1
          have hOd := Own.drew hown
          have hbd : Below w1.heap.size w1 wc.drew := hb.drew
          go_region_held_law (fun w' => w'.cell? ⟨w.heap.size, 0, none⟩ = some (.int .i64 st) ∧ w'.cell? ⟨w.heap.size, 1, none⟩ = some (.bool num) ∧ w'.cell? ⟨w.heap.size, 2, none⟩ = some (.bool ign) ∧ w'.cell? ⟨w.heap.size, 3, none⟩ = some (.bool up) ∧ w'.cell? ⟨b, o + k, none⟩ = some (.int .i64 (p : Int)) ∧ KeepP w st num ign up ⟨b, o + k, none⟩ (.int .i64 (p : Int)) w') (first
              | exact KeepP.all hKP
              | (go_split_ands; exact KeepP.all (KeepP.over (by assumption) bx1))
              | (go_split_ands; exact KeepP.all (KeepP.base hKP hW1 hbB hb5)))
            (first
              | (go_at_call 47; (with_reducible refine (CQ.out _).mono ?_); rintro e wx1 ⟨vx, rfl, hsx, bx1⟩; have hO2 := hOd.over bx1; have hb3 : Below w1.heap.size w1 wx1 := hbd.trans (bx1.mono hbz); have hbz3 := hb3.size)
              | (refine step_app (by rfl) _ _ 55 (by rfl) w1.heap.size 59 i0 _ 3 24 Tryd.underlying55 hi hz0 hz1 hz2 (by rfl) (by decide) encE_length encE_each _ acc (by rfl) hO2 wx1.heap.size vx X (by rfl) hsx (by omega) (by omega) hbz3 ?_; intro v3 w3 hown3 hg3; have hb4 : Below w1.heap.size w1 w3 := hb3.trans (hO2.belowG hbz3 hg3); have hb5 : Below w1.heap.size wc.drew w3 := (bx1.mono hbz).trans (hO2.belowG hbz3 hg3)))
          clear hsx bx1 hO2 hb3 hbz3 hg3 hb5 hOd hbd hKP c0 c1 c2 c3 d0
          go_wp2_with fail
          go_roundw
          case rel => exact ⟨k + 1, acc ++ X, by omega, by go_num, HA2, by rw [List.length_append]; omega, hown3, hb4⟩
          case measure => simp [intOf]; omega
    · have HF : Hid (acc = L) := Lib.hid (by rw [HA.out, List.drop_eq_nil_of_le (by rw [← HN.out]; omega), elems_nil, List.append_nil])
      have bb : Below w.heap.size w wr := b1'.trans (hb.mono b1'.size)
      clear HA
      go_wp2_with fail
      go_ret
      exact ⟨_, rfl, by rw [← HF.out]; exact hown.sl encE_length, bb⟩
end Go.Proofs.YtknnjnginmkblaaDoor
