/- Walks: the reference's decoder. -/
import Derived.Test.YtknnjnginmkblaaDoorW18
import Derived.Test.YtknnjnginmkblaaDoorW10
import Derived.Test.YtknnjnginmkblaaDoorW4
import Derived.Test.YtknnjnginmkblaaDoorPl4
import Derived.Maps.AppendAt
namespace Go.Proofs.YtknnjnginmkblaaDoor
open Go.RowKit

/-- 'out = append(out, y)', and where the new slice lies. -/
theorem wpList_push_at {α : Type} {enc : α → List Value} {P : Program} (w : World) {ops : Array Oper} {rest : List Oper} {o : Oper} {a : Act} {Q : Exit → Act → World → Prop}
    (hgd : o.guard = none) (s x : Operand) (t : TypeId)
    (ho : o.op = .call { callee := .builtin .append, args := #[s, x], argTypes := #[t, t] })
    (base : Nat) (E : TypeId) (i : TypeInfo) (z : Value) (sz bytes : Nat) (ht : P.underlying t = some (.slice E)) (hi : P.info? E = some i) (hz : i.zero = some z)
    (hsize : i.size = sz) (hby : i.bytes = bytes) (hzs : z.cells.size = sz) (hsz : 0 < sz) (he : ∀ x, (enc x).length = sz) (h1 : ∀ x, ∀ u ∈ enc x, u.oneCell' = true)
    (v : Value) (l : List α) (hs : a.eval s = v) (hown : Own enc sz E w base v l)
    (g c : Nat) (y : α) (hx : a.eval x = .slice (some ⟨g, 0, none⟩) 1 c) (hcell : ∀ j u, (enc y)[j]? = some u → w.cell? ⟨g, j, none⟩ = some u)
    (hbytes : (l.length + 1) * bytes ≤ 140737488355328) (hlen : l.length < 140737488355328) (hbase : base ≤ w.heap.size)
    (h : ∀ v' w', Own enc sz E w' base v' (l ++ [y]) → w.grownBy w' v.ownBlock → (v'.ownBlock = v.ownBlock ∨ v'.ownBlock = some w.heap.size) → wpList P ops Q rest (a.put o.dst v') w') : wpList P ops Q (o :: rest) a w := by
  refine wpList_append_own_at _ hgd s x t ho base E i z sz bytes ht hi hz hsize hby hzs hsz v l.length (l.flatMap enc) hs hown ⟨g, 0, none⟩ 1 c (enc y) hx (by rw [he, Nat.one_mul]) ?_ (h1 y) ?_ hbytes hbase ?_
  · intro j u hu
    rw [addr_add, Nat.zero_add]
    exact hcell j u hu
  · simp only [maxLen]; omega
  · intro v' w' hown' hg _ hat
    refine h v' w' ?_ hg hat
    unfold Own
    rw [List.length_append, List.flatMap_append]
    simpa using hown'
/-- Two slices of the call's own that do not share a block. -/
def Apart (u v : Value) : Prop := ∀ g, u.ownBlock = some g → v.ownBlock ≠ some g
theorem Apart.symm {u v : Value} (h : Apart u v) : Apart v u := fun g h1 h2 => h g h2 h1
theorem Apart.keep {u v : Value} (h : Apart u v) : v.ownBlock = none ∨ v.ownBlock ≠ u.ownBlock := by
  cases hv : v.ownBlock with
  | none => exact .inl rfl
  | some g => exact .inr (fun e => h g e.symm hv)
theorem Own.block_lt {α : Type} {enc : α → List Value} {sz : Nat} {E : TypeId} {w : World} {base : Nat} {v : Value} {l : List α} (h : Own enc sz E w base v l) (g : Nat) (hg : v.ownBlock = some g) : g < w.heap.size := by
  have h1 : w.ownsRow base E sz v l.length (l.flatMap enc) := h
  rcases h1.2 with ⟨rfl, _⟩ | ⟨g', cap, cur, rfl, hgb, hh, _⟩
  · cases hg
  · simp only [Value.ownBlock, Option.some.injEq] at hg
    subst hg
    exact (Array.getElem?_eq_some_iff.1 hh).1
theorem Apart.push {α : Type} {enc : α → List Value} {sz : Nat} {E : TypeId} {w : World} {base : Nat} {l : List α} {u u' v : Value} (h : Apart u v) (hv : Own enc sz E w base v l) (hat : u'.ownBlock = u.ownBlock ∨ u'.ownBlock = some w.heap.size) : Apart u' v := by
  intro g hg
  rcases hat with e | e
  · exact h g (e.symm.trans hg)
  · intro h2
    have := hv.block_lt g h2
    rw [e] at hg
    injection hg with hg
    omega

/-- Continuation bytes read without a look at the first byte. -/
def refR (p : Nat) : Nat → List Nat → Option Nat
  | 0, _ => some p
  | _ + 1, [] => none
  | k + 1, b :: r => if contB b = true then refR (p * 64 + (b - 128)) k r else none
def leastB (n : Nat) : Nat := if n = 2 then 128 else if n = 3 then 2048 else if n = 4 then 65536 else 0
def refOk (n : Nat) (p : Nat) : Option (Nat × Nat) := if p < leastB n ∨ 1114111 < p ∨ (55296 ≤ p ∧ p ≤ 57343) then none else some (p, n)
theorem lenB_le (a : Nat) : lenB a ≤ 4 := by unfold lenB; repeat' split
                                             all_goals omega
theorem refOk_3 (p : Nat) : refOk 3 p = if p < 2048 ∨ 1114111 < p ∨ (55296 ≤ p ∧ p ≤ 57343) then none else some (p, 3) := by unfold refOk; rw [show leastB 3 = 2048 from rfl]
theorem refOk_4 (p : Nat) : refOk 4 p = if p < 65536 ∨ 1114111 < p ∨ (55296 ≤ p ∧ p ≤ 57343) then none else some (p, 4) := by unfold refOk; rw [show leastB 4 = 65536 from rfl]
theorem ref_1 (f : Nat → Option (Nat × Nat)) (p b : Nat) (r : List Nat) : (refR p 1 (b :: r)).bind f = if contB b = true then f (p * 64 + (b - 128)) else none := by
  simp only [refR]
  split <;> rfl
theorem ref_2 (f : Nat → Option (Nat × Nat)) (p b c : Nat) (r : List Nat) : (refR p 2 (b :: c :: r)).bind f = if contB b = true then (if contB c = true then f ((p * 64 + (b - 128)) * 64 + (c - 128)) else none) else none := by
  simp only [refR]
  split
  · split <;> rfl
  · rfl
theorem ref_3 (f : Nat → Option (Nat × Nat)) (p b c d : Nat) (r : List Nat) : (refR p 3 (b :: c :: d :: r)).bind f = if contB b = true then (if contB c = true then (if contB d = true then f (((p * 64 + (b - 128)) * 64 + (c - 128)) * 64 + (d - 128)) else none) else none) else none := by
  simp only [refR]
  split
  · split
    · split <;> rfl
    · rfl
  · rfl
theorem dec1_ref (a : Nat) (r : List Nat) : dec1 (a :: r) = if lenB a = 0 then none else (refR (headB a) (lenB a - 1) r).bind (refOk (lenB a)) := by
  have hl : lenB a = 0 ∨ lenB a = 1 ∨ lenB a = 2 ∨ lenB a = 3 ∨ lenB a = 4 := by have := lenB_le a; omega
  rcases hl with h | h | h | h | h
  · simp only [dec1, h]; rfl
  · have ha := lenB_1.1 h
    simp only [dec1, h, headB]
    show some (a, 1) = refOk 1 a
    unfold refOk leastB
    rw [if_neg (by simp; omega)]
  · have ha := lenB_2.1 h
    simp only [dec1, h, headB]
    match r with
    | [] => rfl
    | b :: r =>
      show dec2 a (b :: r) = (refR (a - 192) 1 (b :: r)).bind (refOk 2)
      rw [ref_1]
      simp only [dec2]
      rw [ref2 h]
      by_cases hb : contB b = true
      · rw [if_pos hb, if_pos hb]
        rw [contB_iff] at hb
        unfold refOk leastB
        rw [if_neg (by simp; omega)]
      · rw [if_neg hb, if_neg hb]
  · have ha := lenB_3.1 h
    simp only [dec1, h, headB]
    match r with
    | [] => rfl
    | [b] =>
      show none = (if contB b = true then none else none).bind (refOk 3)
      split <;> rfl
    | b :: c :: r =>
      show dec3 a (b :: c :: r) = (refR (a - 224) 2 (b :: c :: r)).bind (refOk 3)
      rw [ref_2]
      simp only [dec3]
      by_cases hb : contB b = true
      · by_cases hc : contB c = true
        · have hr := ref3 h hb hc
          rw [if_pos hb, if_pos hc, refOk_3]
          by_cases hs : secB a b = true
          · have := hr.1 hs
            rw [if_pos ⟨hs, hc⟩, if_neg]
            rw [contB_iff] at hb hc
            omega
          · rw [if_neg (fun hh => hs hh.1), if_pos]
            have hn : ¬ _ := fun hh => hs (hr.2 hh)
            rw [contB_iff] at hb hc
            omega
        · rw [if_pos hb, if_neg hc, if_neg (fun hh => hc hh.2)]
      · rw [if_neg hb, if_neg (fun hh => hb (secB_cont hh.1))]
  · have ha := lenB_4.1 h
    simp only [dec1, h, headB]
    match r with
    | [] => rfl
    | [b] =>
      show none = (if contB b = true then none else none).bind (refOk 4)
      split <;> rfl
    | [b, c] =>
      show none = (if contB b = true then (if contB c = true then none else none) else none).bind (refOk 4)
      split
      · split <;> rfl
      · rfl
    | b :: c :: d :: r =>
      show dec4 a (b :: c :: d :: r) = (refR (a - 240) 3 (b :: c :: d :: r)).bind (refOk 4)
      rw [ref_3]
      simp only [dec4]
      by_cases hb : contB b = true
      · by_cases hc : contB c = true
        · by_cases hd : contB d = true
          · have hr := ref4 h hb hc hd
            rw [if_pos hb, if_pos hc, if_pos hd, refOk_4]
            by_cases hs : secB a b = true
            · have := hr.1 hs
              rw [if_pos ⟨hs, hc, hd⟩, if_neg]
              omega
            · rw [if_neg (fun hh => hs hh.1), if_pos]
              have hn : ¬ _ := fun hh => hs (hr.2 hh)
              omega
          · rw [if_pos hb, if_pos hc, if_neg hd, if_neg (fun hh => hd hh.2.2)]
        · rw [if_pos hb, if_neg hc, if_neg (fun hh => hc hh.2.1)]
      · rw [if_neg hb, if_neg (fun hh => hb (secB_cont hh.1))]
theorem refR_short : ∀ (k p : Nat) (l : List Nat), l.length < k → refR p k l = none
  | k + 1, p, [], _ => rfl
  | k + 1, p, b :: r, h => by
    simp only [refR]
    rw [refR_short k _ r (by simpa using h)]
    split <;> rfl
/-- What a round knows. -/
def PtsAt (bs : List Nat) (V : Bool) (L acc : List Nat) (i : Nat) : Prop := V = (pts (bs.drop i)).isSome ∧ (V = true → L = acc ++ ptL (bs.drop i))
theorem PtsAt.bad {bs : List Nat} {V : Bool} {L acc : List Nat} {i : Nat} (h : PtsAt bs V L acc i) (hd : dec1 (bs.drop i) = none) (hn : bs.drop i ≠ []) : V = false := by
  rw [h.1, pts_bad hd hn]; rfl
theorem PtsAt.good {bs : List Nat} {V : Bool} {L acc : List Nat} {i p n : Nat} (h : PtsAt bs V L acc i) (hd : dec1 (bs.drop i) = some (p, n)) : PtsAt bs V L (acc ++ [p]) (i + n) := by
  have h1 : V = (pts (bs.drop (i + n))).isSome := by rw [h.1, pts_cons hd, List.drop_drop, Option.isSome_map]
  refine ⟨h1, fun hv => ?_⟩
  have hv2 : (pts (bs.drop i)).isSome = true := by rw [← h.1]; exact hv
  rw [h.2 hv, (pts_some hd hv2).2, List.drop_drop, List.append_assoc]
  rfl

/-- What the reference's decoder answers. -/
def PtsE (w : World) (V : Bool) (L : List Nat) (e : Ending) (w' : World) : Prop := ∃ pv sv, e = .returned (.tuple #[pv, sv, .bool V]) ∧ (V = true → Own encI 1 3 w' w.heap.size pv L) ∧ Below w.heap.size w w'
set_option maxRecDepth 100000 in
set_option maxHeartbeats 8000000 in
theorem points_lib (s : ByteArray) (w : World) (hs : s.size ≤ 1048576) :
    Calls Tryd.prog 23 #[.string s] w (PtsE w (pts (bytesN s)).isSome (ptL (bytesN s))) := by
  obtain ⟨i0, hi, hz0, hz1, hz2⟩ := info_parts info3
  obtain ⟨V, hV⟩ : ∃ V, V = (pts (bytesN s)).isSome := ⟨_, rfl⟩
  obtain ⟨L, hL⟩ : ∃ L, L = ptL (bytesN s) := ⟨_, rfl⟩
  have HP : Hid (PtsAt (bytesN s) V L [] 0) := Lib.hid ⟨hV, fun _ => hL⟩
  rw [← hV, ← hL]
  clear hV hL
  go_enter Tryd.func23, Tryd.ntmps23
  go_wp2_with fail
  have b0 : Below w.heap.size w (w.alloc (.cells #[.int .i64 0, .int .i64 0, .int .i64 128, .int .i64 2048, .int .i64 65536] 3)) := (Below.refl w.heap.size w).alloc (Nat.le_refl _) _
  have z0 : (w.alloc (.cells #[.int .i64 0, .int .i64 0, .int .i64 128, .int .i64 2048, .int .i64 65536] 3)).heap.size = w.heap.size + 1 := by simp
  have l1 : ∀ n : Nat, 1 ≤ n → n ≤ 4 → (w.alloc (.cells #[.int .i64 0, .int .i64 0, .int .i64 128, .int .i64 2048, .int .i64 65536] 3)).cell? ⟨w.heap.size, n, none⟩ = some (.int .i64 (leastB n : Int)) := by
    intro n h1 h4
    have hn : n = 1 ∨ n = 2 ∨ n = 3 ∨ n = 4 := by omega
    rcases hn with rfl | rfl | rfl | rfl <;> exact cells_new w [.int .i64 0, .int .i64 0, .int .i64 128, .int .i64 2048, .int .i64 65536] 3 _ _ rfl
  obtain ⟨w0, hw0⟩ : ∃ w0, w0 = w.alloc (.cells #[.int .i64 0, .int .i64 0, .int .i64 128, .int .i64 2048, .int .i64 65536] 3) := ⟨_, rfl⟩
  rw [← hw0] at b0 z0 l1 ⊢
  clear hw0
  have HL1 := Lib.hid l1
  clear l1
  go_loopw [2, 3, 6] (fun pv sv iv wr => ∃ (i : Nat) (acc st : List Nat), i ≤ s.size ∧ iv = .int .i64 i ∧ Hid (PtsAt (bytesN s) V L acc i) ∧ acc.length ≤ i ∧ st.length ≤ i ∧ Own encI 1 3 wr w0.heap.size pv acc ∧ Own encI 1 3 wr w0.heap.size sv st ∧ Apart pv sv ∧ Below w0.heap.size w0 wr) (fun _ _ iv _ => s.size - (intOf iv).toNat)
  case atStart => exact ⟨0, [], [], Nat.zero_le _, rfl, HP, by simp, by simp, Own.nil _ _, Own.nil _ _, fun g h => by simp [Value.ownBlock] at h, Below.refl _ _⟩
  case round =>
    obtain ⟨i, acc, st, hi1, rfl, HA, hal, hsl, hown, howns, hap, hb⟩ := hrel
    clear HP
    have hbz := hb.size
    have bw : Below w.heap.size w wr := b0.trans (hb.mono (by omega))
    by_cases hlt : i < s.size
    · have hlt' : (i : Int) < s.size := by omega
      obtain ⟨a, ha⟩ : ∃ a, s[i].toNat = a := ⟨_, rfl⟩
      have ha2 : a < 256 := by rw [← ha]; exact s[i].toNat_lt
      have hd0 := bytesN_drop s i hlt
      rw [ha] at hd0
      have HD : Hid (dec1 ((bytesN s).drop i) = if lenB a = 0 then none else (refR (headB a) (lenB a - 1) ((bytesN s).drop (i + 1))).bind (refOk (lenB a))) := Lib.hid (by rw [hd0]; exact dec1_ref a _)
      have HNE : Hid ((bytesN s).drop i ≠ []) := Lib.hid (drop_ne hlt)
      have CS := Lib.hid (shape_lib a · ha2)
      have hn4 := lenB_le a
      have hh : headB a < 128 := by
        unfold headB lenB
        repeat' split
        all_goals omega
      obtain ⟨n, hn⟩ : ∃ n, n = lenB a := ⟨_, rfl⟩
      obtain ⟨hd, hhd⟩ : ∃ x, x = headB a := ⟨_, rfl⟩
      rw [← hn, ← hhd] at CS
      rw [← hn] at hn4
      rw [← hhd] at hh
      rw [← hn, ← hhd] at HD
      clear hd0 hn hhd
      go_wp2_with fail
      refine (CS.out _).mono ?_
      rintro e w1 ⟨rfl, rfl⟩
      clear CS
      by_cases hn0 : n = 0
      · have hF : Hid (V = false) := Lib.hid (HA.out.bad (by rw [HD.out, if_pos hn0]) HNE.out)
        have d0 : ((n : Int) == 0) = true := by simp; omega
        clear HD HA HNE hn4
        subst hn0
        go_wp2_with fail
        go_ret3
        exact ⟨_, _, by rw [hF.out]; rfl, (fun hv => absurd hv (by rw [hF.out]; simp)), bw⟩
      have d0 : ((n : Int) == 0) = false := by simp; omega
      have e0 : IntKind.i64.wrap ((i : Int) + n) = ((i + n : Nat) : Int) := by rw [IntWalk.i64_in _ (by omega)]; omega
      by_cases hin : s.size < i + n
      · have hF : Hid (V = false) := Lib.hid (HA.out.bad (by rw [HD.out, if_neg hn0, refR_short _ _ _ (by rw [List.length_drop, bytesN_length]; omega)]; rfl) HNE.out)
        have d1 : decide ((s.size : Int) < ((i + n : Nat) : Int)) = true := by simp; omega
        have d1' : (s.size : Int) < (i : Int) + n := by omega
        clear HD HA HNE
        go_wp2_with fail
        go_ret3
        exact ⟨_, _, by rw [hF.out]; rfl, (fun hv => absurd hv (by rw [hF.out]; simp)), bw⟩
      have d1 : decide ((s.size : Int) < ((i + n : Nat) : Int)) = false := by simp; omega
      have d1' : ¬ (s.size : Int) < (i : Int) + n := by omega
      have HI0 : Hid (dec1 ((bytesN s).drop i) = (refR hd (n - 1) ((bytesN s).drop (i + 1))).bind (refOk n)) := Lib.hid (by rw [HD.out, if_neg hn0])
      clear HD
      go_wp2_with fail
      go_loop [2, 3, 8, 9] (fun p2 s3 pv kv => Own encI 1 3 wr w0.heap.size p2 acc ∧ Own encI 1 3 wr w0.heap.size s3 st ∧ Apart p2 s3 ∧ ∃ q k : Nat, 1 ≤ k ∧ k ≤ n ∧ pv = .int .i64 q ∧ kv = .int .i64 k ∧ Hid (k = 1 ∧ q < 128 ∨ k = 2 ∧ q < 8256 ∨ k = 3 ∧ q < 528512 ∨ k = 4 ∧ q < 33824960) ∧ Hid (dec1 ((bytesN s).drop i) = (refR q (n - k) ((bytesN s).drop (i + k))).bind (refOk n))) (fun _ _ _ kv => n - (intOf kv).toNat)
      case atStart => exact ⟨hown, howns, hap, hd, 1, by omega, by omega, rfl, rfl, Lib.hid (Or.inl ⟨rfl, hh⟩), HI0⟩
      case round =>
        clear hown howns hap
        obtain ⟨hown, howns, hap, q, k, hk1, hk2, rfl, rfl, HQ, HK⟩ := hrel
        clear HI0
        by_cases hkn : k < n
        · have hkn' : (k : Int) < n := by omega
          have hsz : i + k < s.size := by omega
          have e1 : IntKind.i64.wrap ((i : Int) + k) = (i : Int) + k := IntWalk.i64_in _ (by omega)
          have p1 : 0 ≤ (i : Int) + k := by omega
          have t1 : ((i : Int) + k).toNat = i + k := by omega
          have g1 : (i : Int) + k < s.size := by omega
          obtain ⟨b, hb0⟩ : ∃ b, s[i + k].toNat = b := ⟨_, rfl⟩
          have hb2 : b < 256 := by rw [← hb0]; exact s[i + k].toNat_lt
          have HD2 : Hid (dec1 ((bytesN s).drop i) = (if contB b = true then refR (q * 64 + (b - 128)) (n - (k + 1)) ((bytesN s).drop (i + (k + 1))) else none).bind (refOk n)) := Lib.hid (by
            rw [HK.out, bytesN_drop s (i + k) hsz, hb0, show n - k = (n - (k + 1)) + 1 by omega]; rfl)
          clear HK
          by_cases h1 : b < 128
          · have f1 : decide ((b : Int) < 128) = true := by simp; omega
            have hF : Hid (V = false) := Lib.hid (HA.out.bad (by rw [HD2.out, if_neg (by rw [contB_iff]; omega)]; rfl) HNE.out)
            clear HD2 HA HNE
            go_wp2_with fail
            go_ret3
            exact ⟨_, _, by rw [hF.out]; rfl, (fun hv => absurd hv (by rw [hF.out]; simp)), bw⟩
          have f1 : decide ((b : Int) < 128) = false := by simp; omega
          by_cases h2 : 191 < b
          · have f2 : decide (191 < (b : Int)) = true := by simp; omega
            have hF : Hid (V = false) := Lib.hid (HA.out.bad (by rw [HD2.out, if_neg (by rw [contB_iff]; omega)]; rfl) HNE.out)
            clear HD2 HA HNE
            go_wp2_with fail
            go_ret3
            exact ⟨_, _, by rw [hF.out]; rfl, (fun hv => absurd hv (by rw [hF.out]; simp)), bw⟩
          have f2 : decide (191 < (b : Int)) = false := by simp; omega
          have HD3 : Hid (dec1 ((bytesN s).drop i) = (refR (q * 64 + (b - 128)) (n - (k + 1)) ((bytesN s).drop (i + (k + 1)))).bind (refOk n)) := Lib.hid (by rw [HD2.out, if_pos (by rw [contB_iff]; omega)])
          have hq : q < 528512 := by have := HQ.out; omega
          have HQ2 : Hid (k + 1 = 1 ∧ q * 64 + (b - 128) < 128 ∨ k + 1 = 2 ∧ q * 64 + (b - 128) < 8256 ∨ k + 1 = 3 ∧ q * 64 + (b - 128) < 528512 ∨ k + 1 = 4 ∧ q * 64 + (b - 128) < 33824960) := Lib.hid (by have := HQ.out; omega)
          have ek : IntKind.i64.wrap ((k : Int) + 1) = (k : Int) + 1 := IntWalk.i64_in _ (by omega)
          have eb : IntKind.i64.wrap (b : Int) = (b : Int) := IntWalk.i64_in _ (by omega)
          have m1 : IntKind.i64.wrap (64 * (q : Int)) = ((64 * q : Nat) : Int) := by rw [IntWalk.i64_in _ (by omega)]; omega
          have m2 : IntKind.i64.wrap (((64 * q : Nat) : Int) + (b : Int)) = ((64 * q + b : Nat) : Int) := by rw [IntWalk.i64_in _ (by omega)]; omega
          have m3 : IntKind.i64.wrap (((64 * q + b : Nat) : Int) - 128) = ((q * 64 + (b - 128) : Nat) : Int) := by rw [IntWalk.i64_in _ (by omega)]; omega
          obtain ⟨r, hr⟩ : ∃ r, r = q * 64 + (b - 128) := ⟨_, rfl⟩
          obtain ⟨y, hy⟩ : ∃ y, y = 64 * q + b := ⟨_, rfl⟩
          obtain ⟨x, hx⟩ : ∃ x, x = 64 * q := ⟨_, rfl⟩
          rw [← hr] at HD3 HQ2 m3
          rw [← hy] at m2 m3
          rw [← hx] at m1 m2
          clear hr hy hx HD2 hq HQ
          go_wp2_with fail
          go_round
          case rel => exact ⟨hown, howns, hap, r, k + 1, by omega, by omega, rfl, by go_num, HQ2, HD3⟩
          case measure => simp [intOf]; omega
        · have hkk : k = n := by omega
          subst hkk
          have HF : Hid (dec1 ((bytesN s).drop i) = refOk k q) := Lib.hid (by rw [HK.out, Nat.sub_self]; rfl)
          have hcl : wr.cell? ⟨w.heap.size, k, none⟩ = some (.int .i64 (leastB k : Int)) := (hb.cell (p := ⟨w.heap.size, k, none⟩) (by show w.heap.size < w0.heap.size; omega)).trans (HL1.out k hk1 hn4)
          obtain ⟨le, hle⟩ : ∃ x, x = leastB k := ⟨_, rfl⟩
          have HF2 : Hid (dec1 ((bytesN s).drop i) = if q < le ∨ 1114111 < q ∨ (55296 ≤ q ∧ q ≤ 57343) then none else some (q, k)) := Lib.hid (by rw [HF.out, hle]; rfl)
          rw [← hle] at hcl
          clear hle HF HK hkn d0 d1 d1'
          by_cases h1 : q < le
          · have f1 : decide ((q : Int) < le) = true := by simp; omega
            have hF : Hid (V = false) := Lib.hid (HA.out.bad (by rw [HF2.out, if_pos (.inl h1)]) HNE.out)
            clear HF2 HA HNE HQ
            go_wp2_with fail
            go_ret3
            exact ⟨_, _, by rw [hF.out]; rfl, (fun hv => absurd hv (by rw [hF.out]; simp)), bw⟩
          have f1 : decide ((q : Int) < le) = false := by simp; omega
          by_cases h2 : 1114111 < q
          · have f2 : decide (1114111 < (q : Int)) = true := by simp; omega
            have hF : Hid (V = false) := Lib.hid (HA.out.bad (by rw [HF2.out, if_pos (.inr (.inl h2))]) HNE.out)
            clear HF2 HA HNE HQ
            go_wp2_with fail
            go_ret3
            exact ⟨_, _, by rw [hF.out]; rfl, (fun hv => absurd hv (by rw [hF.out]; simp)), bw⟩
          have f2 : decide (1114111 < (q : Int)) = false := by simp; omega
          by_cases h3 : 55296 ≤ q ∧ q ≤ 57343
          · have f3 : decide (55296 ≤ (q : Int)) = true := by simp; omega
            have f4 : decide ((q : Int) ≤ 57343) = true := by simp; omega
            have hF : Hid (V = false) := Lib.hid (HA.out.bad (by rw [HF2.out, if_pos (.inr (.inr h3))]) HNE.out)
            clear HF2 HA HNE HQ
            go_wp2_with fail
            go_ret3
            exact ⟨_, _, by rw [hF.out]; rfl, (fun hv => absurd hv (by rw [hF.out]; simp)), bw⟩
          have HGo : Hid (PtsAt (bytesN s) V L (acc ++ [q]) (i + k)) := Lib.hid (HA.out.good (by rw [HF2.out, if_neg (by omega)]))
          clear HF2 HA HNE HQ
          have hs3 : q < 55296 ∨ (55296 ≤ q ∧ 57343 < q) := by omega
          rcases hs3 with h4 | ⟨h4, h5⟩
          · have f3 : decide (55296 ≤ (q : Int)) = false := by simp; omega
            go_wp2_with (at_builtin; first
              | (have := hO1; go_loud (refine wpList_push_at _ rfl _ _ 42 rfl w0.heap.size 3 i0 _ 1 8 Tryd.underlying42 hi hz0 hz1 hz2 rfl (by decide) encI_length encI_each _ st rfl (Own.alloc hS1 _) w1.heap.size 1 i rfl (cells_new w1 (encI i) 3) (by omega) (by omega) (by simp; omega) ?_; intro sv2 w2 hS2 hg2 hat2; have hO2 : Own encI 1 3 w2 w0.heap.size _ (acc ++ [q]) := (hO1.alloc (.cells #[.int .i64 (i : Int)] 3)).kept hg2 hap1.symm.keep; have hap2 := (hap1.symm.push (hO1.alloc (.cells #[.int .i64 (i : Int)] 3)) hat2).symm; have hb2 : Below w0.heap.size w0 w2 := (hb1.alloc hb1.size (.cells #[.int .i64 (i : Int)] 3)).trans (Own.belowG (Own.alloc hS1 (.cells #[.int .i64 (i : Int)] 3)) (by have := hb1.size; simp; omega) hg2); clear hg2 hat2 hO1 this))
              | (go_loud (refine wpList_push_at _ rfl _ _ 42 rfl w0.heap.size 3 i0 _ 1 8 Tryd.underlying42 hi hz0 hz1 hz2 rfl (by decide) encI_length encI_each _ acc rfl (Own.alloc hown _) wr.heap.size 1 q rfl (cells_new wr (encI q) 3) (by omega) (by omega) (by simp; omega) ?_; intro pv1 w1 hO1 hg1 hat1; have hS1 : Own encI 1 3 w1 w0.heap.size _ st := (howns.alloc (.cells #[.int .i64 (q : Int)] 3)).kept hg1 hap.keep; have hap1 := hap.push (howns.alloc (.cells #[.int .i64 (q : Int)] 3)) hat1; have hb1 : Below w0.heap.size w0 w1 := (hb.alloc hbz (.cells #[.int .i64 (q : Int)] 3)).trans (Own.belowG (Own.alloc hown (.cells #[.int .i64 (q : Int)] 3)) (by simp; omega) hg1); have hbz1 := hb1.size; clear hg1 hat1)))
            go_roundw
            case rel => exact ⟨i + k, acc ++ [q], st ++ [i], by omega, by go_num, HGo, by rw [List.length_append, List.length_singleton]; omega, by rw [List.length_append, List.length_singleton]; omega, hO2, hS2, hap2, hb2⟩
            case measure => simp [intOf]; omega
          · have f3 : decide (55296 ≤ (q : Int)) = true := by simp; omega
            have f4 : decide ((q : Int) ≤ 57343) = false := by simp; omega
            go_wp2_with (at_builtin; first
              | (have := hO1; go_loud (refine wpList_push_at _ rfl _ _ 42 rfl w0.heap.size 3 i0 _ 1 8 Tryd.underlying42 hi hz0 hz1 hz2 rfl (by decide) encI_length encI_each _ st rfl (Own.alloc hS1 _) w1.heap.size 1 i rfl (cells_new w1 (encI i) 3) (by omega) (by omega) (by simp; omega) ?_; intro sv2 w2 hS2 hg2 hat2; have hO2 : Own encI 1 3 w2 w0.heap.size _ (acc ++ [q]) := (hO1.alloc (.cells #[.int .i64 (i : Int)] 3)).kept hg2 hap1.symm.keep; have hap2 := (hap1.symm.push (hO1.alloc (.cells #[.int .i64 (i : Int)] 3)) hat2).symm; have hb2 : Below w0.heap.size w0 w2 := (hb1.alloc hb1.size (.cells #[.int .i64 (i : Int)] 3)).trans (Own.belowG (Own.alloc hS1 (.cells #[.int .i64 (i : Int)] 3)) (by have := hb1.size; simp; omega) hg2); clear hg2 hat2 hO1 this))
              | (go_loud (refine wpList_push_at _ rfl _ _ 42 rfl w0.heap.size 3 i0 _ 1 8 Tryd.underlying42 hi hz0 hz1 hz2 rfl (by decide) encI_length encI_each _ acc rfl (Own.alloc hown _) wr.heap.size 1 q rfl (cells_new wr (encI q) 3) (by omega) (by omega) (by simp; omega) ?_; intro pv1 w1 hO1 hg1 hat1; have hS1 : Own encI 1 3 w1 w0.heap.size _ st := (howns.alloc (.cells #[.int .i64 (q : Int)] 3)).kept hg1 hap.keep; have hap1 := hap.push (howns.alloc (.cells #[.int .i64 (q : Int)] 3)) hat1; have hb1 : Below w0.heap.size w0 w1 := (hb.alloc hbz (.cells #[.int .i64 (q : Int)] 3)).trans (Own.belowG (Own.alloc hown (.cells #[.int .i64 (q : Int)] 3)) (by simp; omega) hg1); have hbz1 := hb1.size; clear hg1 hat1)))
            go_roundw
            case rel => exact ⟨i + k, acc ++ [q], st ++ [i], by omega, by go_num, HGo, by rw [List.length_append, List.length_singleton]; omega, by rw [List.length_append, List.length_singleton]; omega, hO2, hS2, hap2, hb2⟩
            case measure => simp [intOf]; omega
    · have hF : Hid (V = true ∧ L = acc) := Lib.hid (by
        have h := HA.out
        have hv : V = true := by rw [h.1, List.drop_eq_nil_of_le (by rw [bytesN_length]; omega), pts_nil]; rfl
        exact ⟨hv, by rw [h.2 hv, List.drop_eq_nil_of_le (by rw [bytesN_length]; omega), ptL_nil, List.append_nil]⟩)
      have hO := hown.lower (base' := w.heap.size) (by omega)
      clear HA hown howns
      go_wp2_with fail
      go_ret3
      exact ⟨_, _, by rw [hF.out.1]; rfl, fun _ => by rw [hF.out.2]; exact hO, bw⟩
end Go.Proofs.YtknnjnginmkblaaDoor
