/- Walks: a level written to a key. -/
import Derived.Test.YtknnjnginmkblaaDoorW21
import Derived.Lib.AppendStr
namespace Go.Proofs.YtknnjnginmkblaaDoor
open Go.RowKit

def encB (c : Nat) : List Value := [.int .u8 (c : Int)]
theorem encB_length (c : Nat) : (encB c).length = 1 := rfl
theorem encB_each (x : Nat) : ∀ u ∈ encB x, u.oneCell' = true := by intro u hu; rw [List.mem_singleton.1 hu]; rfl
theorem info5 : (Tryd.prog.info? 5).map (fun i => (i.zero, i.size, i.bytes)) = some (some (.int .u8 0), 1, 1) := by kernel_rfl
theorem Own.apart {α β : Type} {enc : α → List Value} {enc' : β → List Value} {sz sz' : Nat} {E E' : TypeId} {w : World} {base base' : Nat} {v v' : Value} {l : List α} {l' : List β}
    (h : Own enc sz E w base v l) (h' : Own enc' sz' E' w base' v' l') (hne : E ≠ E') : v.ownBlock = none ∨ v.ownBlock ≠ v'.ownBlock := by
  have h1 : w.ownsRow base E sz v l.length (l.flatMap enc) := h
  rcases h1.2 with ⟨rfl, _⟩ | ⟨g, cap, cur, rfl, hgb, hh, _⟩
  · exact .inl rfl
  · refine .inr fun e => ?_
    exact Own.ne_block h' hh hne (e.symm.trans rfl)
theorem Own.row {α : Type} {enc : α → List Value} {sz : Nat} {E : TypeId} {w : World} {base : Nat} {v : Value} {l : List α} (h : Own enc sz E w base v l) (hl : 0 < l.length) :
    ∃ g cap cur, v = .slice (some ⟨g, 0, none⟩) l.length cap ∧ base ≤ g ∧ l.length ≤ cap ∧ cap ≤ maxLen ∧ w.heap[g]? = some (.cells cur E (0, 0)) ∧ cur.toList.take (l.length * sz) = l.flatMap enc := by
  have h1 : w.ownsRow base E sz v l.length (l.flatMap enc) := h
  rcases h1.2 with ⟨rfl, hn⟩ | ⟨g, cap, cur, rfl, hgb, hh, hc1, hc2, hc3, hc4⟩
  · omega
  · exact ⟨g, cap, cur, rfl, hgb, hc1, hc2, hh, hc4⟩
theorem ints_cur {cur : Array Value} {W : List Nat} (h : cur.toList.take (W.length * 1) = W.flatMap encI) (k x : Nat) (hk : W[k]? = some x) : cur[k]? = some (.int .i64 (x : Int)) := by
  have h1 := flatMap_get encI_length W k x hk 0 _ rfl
  rw [Nat.mul_one, Nat.add_zero, ← h, List.getElem?_take] at h1
  split at h1
  · simpa using h1
  · cases h1
theorem take_flat {W : List Nat} {enc : Nat → List Nat} {k x : Nat} (h : W[k]? = some x) : (W.take (k + 1)).flatMap enc = (W.take k).flatMap enc ++ enc x := by
  rw [List.take_add_one, h, List.flatMap_append]
  simp
theorem flat_len {enc : Nat → List Nat} {n : Nat} (hn : ∀ w, (enc w).length = n) : ∀ (l : List Nat), (l.flatMap enc).length = l.length * n
  | [] => by simp
  | a :: r => by rw [List.flatMap_cons, List.length_append, hn, flat_len hn r, List.length_cons, Nat.succ_mul]; omega
/-- 'b = append(b, c)', b a slice of bytes of the call's own. -/
theorem wpList_byte {w : World} {ops : Array Oper} {rest : List Oper} {o : Oper} {a : Act} {Q : Exit → Act → World → Prop} (hgd : o.guard = none) (s x : Operand)
    (ho : o.op = .call { callee := .builtin .append, args := #[s, x], argTypes := #[49, 49] })
    (base : Nat) (v : Value) (l : List Nat) (hs : a.eval s = v) (hown : Own encB 1 5 w base v l) (g c y : Nat) (hx : a.eval x = .slice (some ⟨g, 0, none⟩) 1 c)
    (hcell : w.cell? ⟨g, 0, none⟩ = some (.int .u8 (y : Int))) (hlen : l.length < 140737488355328) (hbase : base ≤ w.heap.size)
    (h : ∀ v' w', Own encB 1 5 w' base v' (l ++ [y]) → w.grownBy w' v.ownBlock → wpList Tryd.prog ops Q rest (a.put o.dst v') w') : wpList Tryd.prog ops Q (o :: rest) a w := by
  obtain ⟨i0, hi, hz0, hz1, hz2⟩ := info_parts info5
  refine wpList_push _ hgd s x 49 ho base 5 i0 _ 1 1 Tryd.underlying49 hi hz0 hz1 hz2 rfl (by decide) encB_length encB_each v l hs hown g c y hx ?_ (by omega) hlen hbase h
  intro j u hu
  match j with
  | 0 =>
    simp only [encB, List.getElem?_cons_zero, Option.some.injEq] at hu
    rw [← hu]; exact hcell
  | j + 1 => simp [encB] at hu

set_option maxRecDepth 100000 in
set_option maxHeartbeats 4000000 in
theorem level_3 (base bo bs : Nat) (v lv : Value) (acc : List Nat) (s : ByteArray) (l : List El) (w : World) (hown : Own encB 1 5 w base v acc) (hbase : base ≤ w.heap.size) (hl : Sl encE 3 w base lv l) (hll : l.length ≤ 8192) (hacc : acc.length ≤ 1000000)
    (ho : w.cell? ⟨bo, 0, none⟩ = some (.func (.func 37) #[] #[])) (hs : w.cell? ⟨bs, 0, none⟩ = some (.int .i64 3)) (hbo : bo < base) (hbs : bs < base) :
    Calls Tryd.prog 84 #[v, .string s, lv, .pointer (some ⟨bo, 0, none⟩), .pointer (some ⟨bs, 0, none⟩)] w fun e w' => ∃ v', e = .returned v' ∧ Own encB 1 5 w' base v' (acc ++ lev3 l) ∧ Below base w w' := by
  obtain ⟨i0, hi, hz0, hz1, hz2⟩ := info_parts info3
  have CW := Lib.hid (weights_one lv l w (hl.more hbase) (by omega))
  have hwl := wts_len El.p l
  have HLV : Hid (lev3 l = (wts El.p l ++ [0]).flatMap enc3) := Lib.hid rfl
  obtain ⟨A, c, hlv, _⟩ := id hl
  subst hlv
  obtain ⟨P, hP⟩ : ∃ P, P = wts El.p l := ⟨_, rfl⟩
  rw [← hP] at CW hwl HLV
  obtain ⟨L, hL⟩ : ∃ L, L = lev3 l := ⟨_, rfl⟩
  rw [← hL] at HLV ⊢
  obtain ⟨ll, hlle⟩ : ∃ m, m = l.length := ⟨_, rfl⟩
  rw [← hlle] at CW hwl hll ⊢
  have HO := Lib.hid hown
  have HS := Lib.hid hs
  obtain ⟨Av, cv, hv, _⟩ := hown.shape
  subst hv
  obtain ⟨la, hla⟩ : ∃ m, m = acc.length := ⟨_, rfl⟩
  rw [← hla] at HO hacc ⊢
  have HLA := Lib.hid hla
  obtain ⟨n, hn⟩ : ∃ n, n = (P ++ [0]).length := ⟨_, rfl⟩
  have hnl : n ≤ ll + 1 := by rw [hn, List.length_append, List.length_singleton]; omega
  have HN := Lib.hid hn
  clear hP hL hlle hl hown hla hs hn
  go_enter Tryd.func84, Tryd.ntmps84
  go_wp2_with fail
  refine CW.out.mono ?_
  rintro e w1 ⟨v1, rfl, hO1, hb1⟩
  have hB1 := HO.out.over hb1
  have hz1' := hb1.size
  clear CW HO
  go_wp2_with (at_builtin; go_loud (refine wpList_push _ rfl _ _ 42 rfl w.heap.size 3 i0 _ 1 8 Tryd.underlying42 hi hz0 hz1 hz2 rfl (by decide) encI_length encI_each _ P rfl (Own.alloc hO1 _) w1.heap.size 1 0 rfl (cells_new w1 (encI 0) 3) (by omega) (by omega) (by simp; omega) ?_; intro v2 w2 hO2 hg2; have hB2 := (hB1.alloc (.cells #[.int .i64 0] 3)).kept hg2 (Own.apart (hB1.alloc (.cells #[.int .i64 0] 3)) (Own.alloc hO1 _) (by decide)); have hb2 : Below w.heap.size w w2 := (hb1.alloc hz1' (.cells #[.int .i64 0] 3)).trans (Own.belowG (Own.alloc hO1 (.cells #[.int .i64 0] 3)) (by simp; omega) hg2); clear hg2 hO1 hB1 hb1; obtain ⟨g, cap, cur, rfl, hgb, hnc, hcm, hcur, htk⟩ := hO2.row (by simp); rw [← HN.out] at hnc ⊢))
  have HCUR : Hid (∀ k x : Nat, (P ++ [0])[k]? = some x → cur[k]? = some (.int .i64 (x : Int))) := Lib.hid (ints_cur htk)
  clear hO2 htk
  unfold maxLen at hcm
  have hbz := hb2.size
  have hbb : Below base w w2 := hb2.mono hbase
  clear hb2
  obtain ⟨W, hW⟩ : ∃ W, W = P ++ [0] := ⟨_, rfl⟩
  rw [← hW] at HCUR HN HLV
  clear hW hwl
  go_loopw [0, 18] (fun bv iv wr => ∃ q : Nat, q ≤ n ∧ iv = .int .i64 q ∧ Own encB 1 5 wr base bv (acc ++ (W.take q).flatMap enc3) ∧ wr.heap[g]? = some (.cells cur 3 (0, 0)) ∧ Below base w wr) (fun _ iv _ => n - (intOf iv).toNat)
  case atStart => exact ⟨0, Nat.zero_le _, rfl, by rw [List.take_zero, List.flatMap_nil, List.append_nil]; exact hB2, hcur, hbb⟩
  case round =>
    obtain ⟨q, hq, rfl, hown, hcu, hb⟩ := hrel
    clear hB2 hcur hbb
    have hbz := hb.size
    by_cases hlt : q < n
    · have hlt' : (q : Int) < n := by omega
      obtain ⟨x, hx⟩ : ∃ x, W[q]? = some x := ⟨W[q]'(by rw [← HN.out]; exact hlt), by simp⟩
      have hcl : wr.cell? ⟨g, q, none⟩ = some (.int .i64 (x : Int)) := (cell_of_row wr g q cur 3 _ hcu).trans (HCUR.out q x hx)
      have hsz : wr.cell? ⟨bs, 0, none⟩ = some (.int .i64 3) := (hb.cell (p := ⟨bs, 0, none⟩) hbs).trans HS.out
      have HT : Hid (acc ++ (W.take (q + 1)).flatMap enc3 = acc ++ (W.take q).flatMap enc3 ++ enc3 x) := Lib.hid (by rw [take_flat hx, List.append_assoc])
      have hal : (acc ++ (W.take q).flatMap enc3).length ≤ la + n * 3 := by
        rw [List.length_append, flat_len (n := 3) (fun _ => rfl), List.length_take, ← HLA.out]
        have : min q W.length ≤ n := by omega
        omega
      obtain ⟨B, hB⟩ : ∃ B, B = acc ++ (W.take q).flatMap enc3 := ⟨_, rfl⟩
      rw [← hB] at HT hal hown
      clear hB hx
      go_wp2_with fail
      go_loopw [0, 11] (fun bv jv wx => ∃ j : Nat, j ≤ 3 ∧ jv = .int .i64 (3 - 1 - (j : Int)) ∧ Own encB 1 5 wx base bv (B ++ (enc3 x).take j) ∧ wx.heap[g]? = some (.cells cur 3 (0, 0)) ∧ Below base w wx) (fun _ jv _ => (intOf jv + 1).toNat)
      case atStart => exact ⟨0, Nat.zero_le _, by first | rfl | go_num, by rw [List.take_zero, List.append_nil]; exact hown, hcu, hb⟩
      case round =>
        obtain ⟨j, hj, rfl, hownx, hcx, hbx⟩ := hrel
        clear hown hcu hb
        have hbxz := hbx.size
        have hj' : j = 0 ∨ j = 1 ∨ j = 2 ∨ j = 3 := by omega
        rcases hj' with rfl | rfl | rfl | rfl
        · have HB : Hid (B ++ (enc3 x).take 1 = B ++ (enc3 x).take 0 ++ [x / 65536 % 256]) := Lib.hid (by simp [enc3])
          have HY : Hid (((x / 65536 % 256 : Nat) : Int) = (x : Int) / 65536 % 256) := Lib.hid (by omega)
          have hbl : (B ++ (enc3 x).take 0).length ≤ la + n * 3 + 3 := by rw [List.length_append, List.length_take]; have := Nat.min_le_left 0 (enc3 x).length; omega
          obtain ⟨C, hC⟩ : ∃ C, C = B ++ (enc3 x).take 0 := ⟨_, rfl⟩
          rw [← hC] at HB hbl hownx
          obtain ⟨y, hy⟩ : ∃ y, y = x / 65536 % 256 := ⟨_, rfl⟩
          rw [← hy] at HB HY
          clear hC hy hal hcl hsz
          go_wp2_with (at_builtin; go_loud (refine wpList_byte rfl _ _ rfl base _ C rfl (Own.alloc hownx _) wr.heap.size 1 y rfl (by rw [HY.out]; exact cells_new wr [.int .u8 ((x : Int) / 65536 % 256)] 5 0 _ rfl) (by omega) (by simp; omega) ?_; intro v7 w7 hown7 hg7; have hc7 : w7.heap[g]? = some (.cells cur 3 (0, 0)) := grown_block hg7 (alloc_block hcx) (Own.ne_block hownx hcx (by decide)); have hb7 : Below base w w7 := (hbx.alloc (Nat.le_trans hbase hbxz) (.cells #[.int .u8 ((x : Int) / 65536 % 256)] 5)).trans (Own.belowG (Own.alloc hownx (.cells #[.int .u8 ((x : Int) / 65536 % 256)] 5)) (by simp; omega) hg7); clear hg7))
          go_roundw
          case rel => exact ⟨1, by omega, by first | rfl | go_num, by rw [HB.out]; exact hown7, hc7, hb7⟩
          case measure => simp [intOf]
        · have HB : Hid (B ++ (enc3 x).take 2 = B ++ (enc3 x).take 1 ++ [x / 256 % 256]) := Lib.hid (by simp [enc3])
          have HY : Hid (((x / 256 % 256 : Nat) : Int) = (x : Int) / 256 % 256) := Lib.hid (by omega)
          have hbl : (B ++ (enc3 x).take 1).length ≤ la + n * 3 + 3 := by rw [List.length_append, List.length_take]; have := Nat.min_le_left 1 (enc3 x).length; omega
          obtain ⟨C, hC⟩ : ∃ C, C = B ++ (enc3 x).take 1 := ⟨_, rfl⟩
          rw [← hC] at HB hbl hownx
          obtain ⟨y, hy⟩ : ∃ y, y = x / 256 % 256 := ⟨_, rfl⟩
          rw [← hy] at HB HY
          clear hC hy hal hcl hsz
          go_wp2_with (at_builtin; go_loud (refine wpList_byte rfl _ _ rfl base _ C rfl (Own.alloc hownx _) wr.heap.size 1 y rfl (by rw [HY.out]; exact cells_new wr [.int .u8 ((x : Int) / 256 % 256)] 5 0 _ rfl) (by omega) (by simp; omega) ?_; intro v7 w7 hown7 hg7; have hc7 : w7.heap[g]? = some (.cells cur 3 (0, 0)) := grown_block hg7 (alloc_block hcx) (Own.ne_block hownx hcx (by decide)); have hb7 : Below base w w7 := (hbx.alloc (Nat.le_trans hbase hbxz) (.cells #[.int .u8 ((x : Int) / 256 % 256)] 5)).trans (Own.belowG (Own.alloc hownx (.cells #[.int .u8 ((x : Int) / 256 % 256)] 5)) (by simp; omega) hg7); clear hg7))
          go_roundw
          case rel => exact ⟨2, by omega, by first | rfl | go_num, by rw [HB.out]; exact hown7, hc7, hb7⟩
          case measure => simp [intOf]
        · have HB : Hid (B ++ (enc3 x).take 3 = B ++ (enc3 x).take 2 ++ [x % 256]) := Lib.hid (by simp [enc3])
          have HY : Hid (((x % 256 : Nat) : Int) = (x : Int) % 256) := Lib.hid (by omega)
          have hbl : (B ++ (enc3 x).take 2).length ≤ la + n * 3 + 3 := by rw [List.length_append, List.length_take]; have := Nat.min_le_left 2 (enc3 x).length; omega
          obtain ⟨C, hC⟩ : ∃ C, C = B ++ (enc3 x).take 2 := ⟨_, rfl⟩
          rw [← hC] at HB hbl hownx
          obtain ⟨y, hy⟩ : ∃ y, y = x % 256 := ⟨_, rfl⟩
          rw [← hy] at HB HY
          clear hC hy hal hcl hsz
          go_wp2_with (at_builtin; go_loud (refine wpList_byte rfl _ _ rfl base _ C rfl (Own.alloc hownx _) wr.heap.size 1 y rfl (by rw [HY.out]; exact cells_new wr [.int .u8 ((x : Int) % 256)] 5 0 _ rfl) (by omega) (by simp; omega) ?_; intro v7 w7 hown7 hg7; have hc7 : w7.heap[g]? = some (.cells cur 3 (0, 0)) := grown_block hg7 (alloc_block hcx) (Own.ne_block hownx hcx (by decide)); have hb7 : Below base w w7 := (hbx.alloc (Nat.le_trans hbase hbxz) (.cells #[.int .u8 ((x : Int) % 256)] 5)).trans (Own.belowG (Own.alloc hownx (.cells #[.int .u8 ((x : Int) % 256)] 5)) (by simp; omega) hg7); clear hg7))
          go_roundw
          case rel => exact ⟨3, by omega, by first | rfl | go_num, by rw [HB.out]; exact hown7, hc7, hb7⟩
          case measure => simp [intOf]
        · have HB : Hid (B ++ (enc3 x).take 3 = B ++ enc3 x) := Lib.hid (by simp [enc3])
          clear hal hcl hsz
          go_wp2_with fail
          go_roundw
          case rel => exact ⟨q + 1, by omega, by go_num, by rw [HT.out, ← HB.out]; exact hownx, hcx, hbx⟩
          case measure => simp [intOf]; omega

    · have hqn : q = n := by omega
      have HF : Hid (acc ++ (W.take q).flatMap enc3 = acc ++ L) := Lib.hid (by rw [HLV.out, List.take_of_length_le (by rw [← HN.out]; omega)])
      clear hlt
      subst hqn
      go_wp2_with fail
      go_ret
      exact ⟨_, rfl, by rw [← HF.out]; exact hown, hb⟩

set_option maxRecDepth 100000 in
set_option maxHeartbeats 4000000 in
theorem level_2 (base bo bs : Nat) (v lv : Value) (acc : List Nat) (s : ByteArray) (l : List El) (w : World) (hown : Own encB 1 5 w base v acc) (hbase : base ≤ w.heap.size) (hl : Sl encE 3 w base lv l) (hll : l.length ≤ 8192) (hacc : acc.length ≤ 1000000)
    (ho : w.cell? ⟨bo, 0, none⟩ = some (.func (.func 38) #[] #[])) (hs : w.cell? ⟨bs, 0, none⟩ = some (.int .i64 2)) (hbo : bo < base) (hbs : bs < base) :
    Calls Tryd.prog 84 #[v, .string s, lv, .pointer (some ⟨bo, 0, none⟩), .pointer (some ⟨bs, 0, none⟩)] w fun e w' => ∃ v', e = .returned v' ∧ Own encB 1 5 w' base v' (acc ++ lev2 l) ∧ Below base w w' := by
  obtain ⟨i0, hi, hz0, hz1, hz2⟩ := info_parts info3
  have CW := Lib.hid (weights_two lv l w (hl.more hbase) (by omega))
  have hwl := wts_len El.s l
  have HLV : Hid (lev2 l = (wts El.s l ++ [0]).flatMap enc2) := Lib.hid rfl
  obtain ⟨A, c, hlv, _⟩ := id hl
  subst hlv
  obtain ⟨P, hP⟩ : ∃ P, P = wts El.s l := ⟨_, rfl⟩
  rw [← hP] at CW hwl HLV
  obtain ⟨L, hL⟩ : ∃ L, L = lev2 l := ⟨_, rfl⟩
  rw [← hL] at HLV ⊢
  obtain ⟨ll, hlle⟩ : ∃ m, m = l.length := ⟨_, rfl⟩
  rw [← hlle] at CW hwl hll ⊢
  have HO := Lib.hid hown
  have HS := Lib.hid hs
  obtain ⟨Av, cv, hv, _⟩ := hown.shape
  subst hv
  obtain ⟨la, hla⟩ : ∃ m, m = acc.length := ⟨_, rfl⟩
  rw [← hla] at HO hacc ⊢
  have HLA := Lib.hid hla
  obtain ⟨n, hn⟩ : ∃ n, n = (P ++ [0]).length := ⟨_, rfl⟩
  have hnl : n ≤ ll + 1 := by rw [hn, List.length_append, List.length_singleton]; omega
  have HN := Lib.hid hn
  clear hP hL hlle hl hown hla hs hn
  go_enter Tryd.func84, Tryd.ntmps84
  go_wp2_with fail
  refine CW.out.mono ?_
  rintro e w1 ⟨v1, rfl, hO1, hb1⟩
  have hB1 := HO.out.over hb1
  have hz1' := hb1.size
  clear CW HO
  go_wp2_with (at_builtin; go_loud (refine wpList_push _ rfl _ _ 42 rfl w.heap.size 3 i0 _ 1 8 Tryd.underlying42 hi hz0 hz1 hz2 rfl (by decide) encI_length encI_each _ P rfl (Own.alloc hO1 _) w1.heap.size 1 0 rfl (cells_new w1 (encI 0) 3) (by omega) (by omega) (by simp; omega) ?_; intro v2 w2 hO2 hg2; have hB2 := (hB1.alloc (.cells #[.int .i64 0] 3)).kept hg2 (Own.apart (hB1.alloc (.cells #[.int .i64 0] 3)) (Own.alloc hO1 _) (by decide)); have hb2 : Below w.heap.size w w2 := (hb1.alloc hz1' (.cells #[.int .i64 0] 3)).trans (Own.belowG (Own.alloc hO1 (.cells #[.int .i64 0] 3)) (by simp; omega) hg2); clear hg2 hO1 hB1 hb1; obtain ⟨g, cap, cur, rfl, hgb, hnc, hcm, hcur, htk⟩ := hO2.row (by simp); rw [← HN.out] at hnc ⊢))
  have HCUR : Hid (∀ k x : Nat, (P ++ [0])[k]? = some x → cur[k]? = some (.int .i64 (x : Int))) := Lib.hid (ints_cur htk)
  clear hO2 htk
  unfold maxLen at hcm
  have hbz := hb2.size
  have hbb : Below base w w2 := hb2.mono hbase
  clear hb2
  obtain ⟨W, hW⟩ : ∃ W, W = P ++ [0] := ⟨_, rfl⟩
  rw [← hW] at HCUR HN HLV
  clear hW hwl
  go_loopw [0, 18] (fun bv iv wr => ∃ q : Nat, q ≤ n ∧ iv = .int .i64 q ∧ Own encB 1 5 wr base bv (acc ++ (W.take q).flatMap enc2) ∧ wr.heap[g]? = some (.cells cur 3 (0, 0)) ∧ Below base w wr) (fun _ iv _ => n - (intOf iv).toNat)
  case atStart => exact ⟨0, Nat.zero_le _, rfl, by rw [List.take_zero, List.flatMap_nil, List.append_nil]; exact hB2, hcur, hbb⟩
  case round =>
    obtain ⟨q, hq, rfl, hown, hcu, hb⟩ := hrel
    clear hB2 hcur hbb
    have hbz := hb.size
    by_cases hlt : q < n
    · have hlt' : (q : Int) < n := by omega
      obtain ⟨x, hx⟩ : ∃ x, W[q]? = some x := ⟨W[q]'(by rw [← HN.out]; exact hlt), by simp⟩
      have hcl : wr.cell? ⟨g, q, none⟩ = some (.int .i64 (x : Int)) := (cell_of_row wr g q cur 3 _ hcu).trans (HCUR.out q x hx)
      have hsz : wr.cell? ⟨bs, 0, none⟩ = some (.int .i64 2) := (hb.cell (p := ⟨bs, 0, none⟩) hbs).trans HS.out
      have HT : Hid (acc ++ (W.take (q + 1)).flatMap enc2 = acc ++ (W.take q).flatMap enc2 ++ enc2 x) := Lib.hid (by rw [take_flat hx, List.append_assoc])
      have hal : (acc ++ (W.take q).flatMap enc2).length ≤ la + n * 2 := by
        rw [List.length_append, flat_len (n := 2) (fun _ => rfl), List.length_take, ← HLA.out]
        have : min q W.length ≤ n := by omega
        omega
      obtain ⟨B, hB⟩ : ∃ B, B = acc ++ (W.take q).flatMap enc2 := ⟨_, rfl⟩
      rw [← hB] at HT hal hown
      clear hB hx
      go_wp2_with fail
      go_loopw [0, 11] (fun bv jv wx => ∃ j : Nat, j ≤ 2 ∧ jv = .int .i64 (2 - 1 - (j : Int)) ∧ Own encB 1 5 wx base bv (B ++ (enc2 x).take j) ∧ wx.heap[g]? = some (.cells cur 3 (0, 0)) ∧ Below base w wx) (fun _ jv _ => (intOf jv + 1).toNat)
      case atStart => exact ⟨0, Nat.zero_le _, by first | rfl | go_num, by rw [List.take_zero, List.append_nil]; exact hown, hcu, hb⟩
      case round =>
        obtain ⟨j, hj, rfl, hownx, hcx, hbx⟩ := hrel
        clear hown hcu hb
        have hbxz := hbx.size
        have hj' : j = 0 ∨ j = 1 ∨ j = 2 := by omega
        rcases hj' with rfl | rfl | rfl
        · have HB : Hid (B ++ (enc2 x).take 1 = B ++ (enc2 x).take 0 ++ [x / 256 % 256]) := Lib.hid (by simp [enc2])
          have HY : Hid (((x / 256 % 256 : Nat) : Int) = (x : Int) / 256 % 256) := Lib.hid (by omega)
          have hbl : (B ++ (enc2 x).take 0).length ≤ la + n * 2 + 2 := by rw [List.length_append, List.length_take]; have := Nat.min_le_left 0 (enc2 x).length; omega
          obtain ⟨C, hC⟩ : ∃ C, C = B ++ (enc2 x).take 0 := ⟨_, rfl⟩
          rw [← hC] at HB hbl hownx
          obtain ⟨y, hy⟩ : ∃ y, y = x / 256 % 256 := ⟨_, rfl⟩
          rw [← hy] at HB HY
          clear hC hy hal hcl hsz
          go_wp2_with (at_builtin; go_loud (refine wpList_byte rfl _ _ rfl base _ C rfl (Own.alloc hownx _) wr.heap.size 1 y rfl (by rw [HY.out]; exact cells_new wr [.int .u8 ((x : Int) / 256 % 256)] 5 0 _ rfl) (by omega) (by simp; omega) ?_; intro v7 w7 hown7 hg7; have hc7 : w7.heap[g]? = some (.cells cur 3 (0, 0)) := grown_block hg7 (alloc_block hcx) (Own.ne_block hownx hcx (by decide)); have hb7 : Below base w w7 := (hbx.alloc (Nat.le_trans hbase hbxz) (.cells #[.int .u8 ((x : Int) / 256 % 256)] 5)).trans (Own.belowG (Own.alloc hownx (.cells #[.int .u8 ((x : Int) / 256 % 256)] 5)) (by simp; omega) hg7); clear hg7))
          go_roundw
          case rel => exact ⟨1, by omega, by first | rfl | go_num, by rw [HB.out]; exact hown7, hc7, hb7⟩
          case measure => simp [intOf]
        · have HB : Hid (B ++ (enc2 x).take 2 = B ++ (enc2 x).take 1 ++ [x % 256]) := Lib.hid (by simp [enc2])
          have HY : Hid (((x % 256 : Nat) : Int) = (x : Int) % 256) := Lib.hid (by omega)
          have hbl : (B ++ (enc2 x).take 1).length ≤ la + n * 2 + 2 := by rw [List.length_append, List.length_take]; have := Nat.min_le_left 1 (enc2 x).length; omega
          obtain ⟨C, hC⟩ : ∃ C, C = B ++ (enc2 x).take 1 := ⟨_, rfl⟩
          rw [← hC] at HB hbl hownx
          obtain ⟨y, hy⟩ : ∃ y, y = x % 256 := ⟨_, rfl⟩
          rw [← hy] at HB HY
          clear hC hy hal hcl hsz
          go_wp2_with (at_builtin; go_loud (refine wpList_byte rfl _ _ rfl base _ C rfl (Own.alloc hownx _) wr.heap.size 1 y rfl (by rw [HY.out]; exact cells_new wr [.int .u8 ((x : Int) % 256)] 5 0 _ rfl) (by omega) (by simp; omega) ?_; intro v7 w7 hown7 hg7; have hc7 : w7.heap[g]? = some (.cells cur 3 (0, 0)) := grown_block hg7 (alloc_block hcx) (Own.ne_block hownx hcx (by decide)); have hb7 : Below base w w7 := (hbx.alloc (Nat.le_trans hbase hbxz) (.cells #[.int .u8 ((x : Int) % 256)] 5)).trans (Own.belowG (Own.alloc hownx (.cells #[.int .u8 ((x : Int) % 256)] 5)) (by simp; omega) hg7); clear hg7))
          go_roundw
          case rel => exact ⟨2, by omega, by first | rfl | go_num, by rw [HB.out]; exact hown7, hc7, hb7⟩
          case measure => simp [intOf]
        · have HB : Hid (B ++ (enc2 x).take 2 = B ++ enc2 x) := Lib.hid (by simp [enc2])
          clear hal hcl hsz
          go_wp2_with fail
          go_roundw
          case rel => exact ⟨q + 1, by omega, by go_num, by rw [HT.out, ← HB.out]; exact hownx, hcx, hbx⟩
          case measure => simp [intOf]; omega

    · have hqn : q = n := by omega
      have HF : Hid (acc ++ (W.take q).flatMap enc2 = acc ++ L) := Lib.hid (by rw [HLV.out, List.take_of_length_le (by rw [← HN.out]; omega)])
      clear hlt
      subst hqn
      go_wp2_with fail
      go_ret
      exact ⟨_, rfl, by rw [← HF.out]; exact hown, hb⟩

set_option maxRecDepth 100000 in
set_option maxHeartbeats 4000000 in
theorem level_1 (base bo bs : Nat) (v lv : Value) (acc : List Nat) (s : ByteArray) (l : List El) (w : World) (hown : Own encB 1 5 w base v acc) (hbase : base ≤ w.heap.size) (hl : Sl encE 3 w base lv l) (hll : l.length ≤ 8192) (hacc : acc.length ≤ 1000000)
    (ho : w.cell? ⟨bo, 0, none⟩ = some (.func (.func 39) #[] #[])) (hs : w.cell? ⟨bs, 0, none⟩ = some (.int .i64 1)) (hbo : bo < base) (hbs : bs < base) :
    Calls Tryd.prog 84 #[v, .string s, lv, .pointer (some ⟨bo, 0, none⟩), .pointer (some ⟨bs, 0, none⟩)] w fun e w' => ∃ v', e = .returned v' ∧ Own encB 1 5 w' base v' (acc ++ lev1 l) ∧ Below base w w' := by
  obtain ⟨i0, hi, hz0, hz1, hz2⟩ := info_parts info3
  have CW := Lib.hid (weights_three lv l w (hl.more hbase) (by omega))
  have hwl := wts_len El.t l
  have HLV : Hid (lev1 l = (wts El.t l ++ [0]).flatMap enc1) := Lib.hid rfl
  obtain ⟨A, c, hlv, _⟩ := id hl
  subst hlv
  obtain ⟨P, hP⟩ : ∃ P, P = wts El.t l := ⟨_, rfl⟩
  rw [← hP] at CW hwl HLV
  obtain ⟨L, hL⟩ : ∃ L, L = lev1 l := ⟨_, rfl⟩
  rw [← hL] at HLV ⊢
  obtain ⟨ll, hlle⟩ : ∃ m, m = l.length := ⟨_, rfl⟩
  rw [← hlle] at CW hwl hll ⊢
  have HO := Lib.hid hown
  have HS := Lib.hid hs
  obtain ⟨Av, cv, hv, _⟩ := hown.shape
  subst hv
  obtain ⟨la, hla⟩ : ∃ m, m = acc.length := ⟨_, rfl⟩
  rw [← hla] at HO hacc ⊢
  have HLA := Lib.hid hla
  obtain ⟨n, hn⟩ : ∃ n, n = (P ++ [0]).length := ⟨_, rfl⟩
  have hnl : n ≤ ll + 1 := by rw [hn, List.length_append, List.length_singleton]; omega
  have HN := Lib.hid hn
  clear hP hL hlle hl hown hla hs hn
  go_enter Tryd.func84, Tryd.ntmps84
  go_wp2_with fail
  refine CW.out.mono ?_
  rintro e w1 ⟨v1, rfl, hO1, hb1⟩
  have hB1 := HO.out.over hb1
  have hz1' := hb1.size
  clear CW HO
  go_wp2_with (at_builtin; go_loud (refine wpList_push _ rfl _ _ 42 rfl w.heap.size 3 i0 _ 1 8 Tryd.underlying42 hi hz0 hz1 hz2 rfl (by decide) encI_length encI_each _ P rfl (Own.alloc hO1 _) w1.heap.size 1 0 rfl (cells_new w1 (encI 0) 3) (by omega) (by omega) (by simp; omega) ?_; intro v2 w2 hO2 hg2; have hB2 := (hB1.alloc (.cells #[.int .i64 0] 3)).kept hg2 (Own.apart (hB1.alloc (.cells #[.int .i64 0] 3)) (Own.alloc hO1 _) (by decide)); have hb2 : Below w.heap.size w w2 := (hb1.alloc hz1' (.cells #[.int .i64 0] 3)).trans (Own.belowG (Own.alloc hO1 (.cells #[.int .i64 0] 3)) (by simp; omega) hg2); clear hg2 hO1 hB1 hb1; obtain ⟨g, cap, cur, rfl, hgb, hnc, hcm, hcur, htk⟩ := hO2.row (by simp); rw [← HN.out] at hnc ⊢))
  have HCUR : Hid (∀ k x : Nat, (P ++ [0])[k]? = some x → cur[k]? = some (.int .i64 (x : Int))) := Lib.hid (ints_cur htk)
  clear hO2 htk
  unfold maxLen at hcm
  have hbz := hb2.size
  have hbb : Below base w w2 := hb2.mono hbase
  clear hb2
  obtain ⟨W, hW⟩ : ∃ W, W = P ++ [0] := ⟨_, rfl⟩
  rw [← hW] at HCUR HN HLV
  clear hW hwl
  go_loopw [0, 18] (fun bv iv wr => ∃ q : Nat, q ≤ n ∧ iv = .int .i64 q ∧ Own encB 1 5 wr base bv (acc ++ (W.take q).flatMap enc1) ∧ wr.heap[g]? = some (.cells cur 3 (0, 0)) ∧ Below base w wr) (fun _ iv _ => n - (intOf iv).toNat)
  case atStart => exact ⟨0, Nat.zero_le _, rfl, by rw [List.take_zero, List.flatMap_nil, List.append_nil]; exact hB2, hcur, hbb⟩
  case round =>
    obtain ⟨q, hq, rfl, hown, hcu, hb⟩ := hrel
    clear hB2 hcur hbb
    have hbz := hb.size
    by_cases hlt : q < n
    · have hlt' : (q : Int) < n := by omega
      obtain ⟨x, hx⟩ : ∃ x, W[q]? = some x := ⟨W[q]'(by rw [← HN.out]; exact hlt), by simp⟩
      have hcl : wr.cell? ⟨g, q, none⟩ = some (.int .i64 (x : Int)) := (cell_of_row wr g q cur 3 _ hcu).trans (HCUR.out q x hx)
      have hsz : wr.cell? ⟨bs, 0, none⟩ = some (.int .i64 1) := (hb.cell (p := ⟨bs, 0, none⟩) hbs).trans HS.out
      have HT : Hid (acc ++ (W.take (q + 1)).flatMap enc1 = acc ++ (W.take q).flatMap enc1 ++ enc1 x) := Lib.hid (by rw [take_flat hx, List.append_assoc])
      have hal : (acc ++ (W.take q).flatMap enc1).length ≤ la + n * 1 := by
        rw [List.length_append, flat_len (n := 1) (fun _ => rfl), List.length_take, ← HLA.out]
        have : min q W.length ≤ n := by omega
        omega
      obtain ⟨B, hB⟩ : ∃ B, B = acc ++ (W.take q).flatMap enc1 := ⟨_, rfl⟩
      rw [← hB] at HT hal hown
      clear hB hx
      go_wp2_with fail
      go_loopw [0, 11] (fun bv jv wx => ∃ j : Nat, j ≤ 1 ∧ jv = .int .i64 (1 - 1 - (j : Int)) ∧ Own encB 1 5 wx base bv (B ++ (enc1 x).take j) ∧ wx.heap[g]? = some (.cells cur 3 (0, 0)) ∧ Below base w wx) (fun _ jv _ => (intOf jv + 1).toNat)
      case atStart => exact ⟨0, Nat.zero_le _, by first | rfl | go_num, by rw [List.take_zero, List.append_nil]; exact hown, hcu, hb⟩
      case round =>
        obtain ⟨j, hj, rfl, hownx, hcx, hbx⟩ := hrel
        clear hown hcu hb
        have hbxz := hbx.size
        have hj' : j = 0 ∨ j = 1 := by omega
        rcases hj' with rfl | rfl
        · have HB : Hid (B ++ (enc1 x).take 1 = B ++ (enc1 x).take 0 ++ [x % 256]) := Lib.hid (by simp [enc1])
          have HY : Hid (((x % 256 : Nat) : Int) = (x : Int) % 256) := Lib.hid (by omega)
          have hbl : (B ++ (enc1 x).take 0).length ≤ la + n * 1 + 1 := by rw [List.length_append, List.length_take]; have := Nat.min_le_left 0 (enc1 x).length; omega
          obtain ⟨C, hC⟩ : ∃ C, C = B ++ (enc1 x).take 0 := ⟨_, rfl⟩
          rw [← hC] at HB hbl hownx
          obtain ⟨y, hy⟩ : ∃ y, y = x % 256 := ⟨_, rfl⟩
          rw [← hy] at HB HY
          clear hC hy hal hcl hsz
          go_wp2_with (at_builtin; go_loud (refine wpList_byte rfl _ _ rfl base _ C rfl (Own.alloc hownx _) wr.heap.size 1 y rfl (by rw [HY.out]; exact cells_new wr [.int .u8 ((x : Int) % 256)] 5 0 _ rfl) (by omega) (by simp; omega) ?_; intro v7 w7 hown7 hg7; have hc7 : w7.heap[g]? = some (.cells cur 3 (0, 0)) := grown_block hg7 (alloc_block hcx) (Own.ne_block hownx hcx (by decide)); have hb7 : Below base w w7 := (hbx.alloc (Nat.le_trans hbase hbxz) (.cells #[.int .u8 ((x : Int) % 256)] 5)).trans (Own.belowG (Own.alloc hownx (.cells #[.int .u8 ((x : Int) % 256)] 5)) (by simp; omega) hg7); clear hg7))
          go_roundw
          case rel => exact ⟨1, by omega, by first | rfl | go_num, by rw [HB.out]; exact hown7, hc7, hb7⟩
          case measure => simp [intOf]
        · have HB : Hid (B ++ (enc1 x).take 1 = B ++ enc1 x) := Lib.hid (by simp [enc1])
          clear hal hcl hsz
          go_wp2_with fail
          go_roundw
          case rel => exact ⟨q + 1, by omega, by go_num, by rw [HT.out, ← HB.out]; exact hownx, hcx, hbx⟩
          case measure => simp [intOf]; omega

    · have hqn : q = n := by omega
      have HF : Hid (acc ++ (W.take q).flatMap enc1 = acc ++ L) := Lib.hid (by rw [HLV.out, List.take_of_length_le (by rw [← HN.out]; omega)])
      clear hlt
      subst hqn
      go_wp2_with fail
      go_ret
      exact ⟨_, rfl, by rw [← HF.out]; exact hown, hb⟩
end Go.Proofs.YtknnjnginmkblaaDoor
