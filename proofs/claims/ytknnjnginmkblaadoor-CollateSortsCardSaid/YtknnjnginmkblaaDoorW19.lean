/- Walks: the elements of a string. -/
import Derived.Test.YtknnjnginmkblaaDoorW18
import Derived.Test.YtknnjnginmkblaaDoorW17b
import Derived.Test.YtknnjnginmkblaaDoorW14
import Derived.Test.YtknnjnginmkblaaDoorPl4
import Derived.Laws.IdiomStrings
import Derived.Deep.CutBlock
import Derived.Deep.CutRange
namespace Go.Proofs.YtknnjnginmkblaaDoor
open Go.RowKit

theorem Own.ne_block {α : Type} {enc : α → List Value} {sz : Nat} {E t : TypeId} {w : World} {base g : Nat} {v : Value} {l : List α} {cs : Array Value} {fr : Nat × Nat} (h : Own enc sz E w base v l) (hg : w.heap[g]? = some (.cells cs t fr)) (ht : t ≠ E) : v.ownBlock ≠ some g := by
  have h' : w.ownsRow base E sz v l.length (l.flatMap enc) := h
  rcases h'.2 with ⟨rfl, _⟩ | ⟨g', cap, cur, rfl, hgb, hh, _⟩
  · simp [Value.ownBlock]
  · intro e
    simp only [Value.ownBlock, Option.some.injEq] at e
    subst e
    rw [hh] at hg
    injection hg with hg
    injection hg with _ h2 _
    exact ht h2.symm
theorem grown_block {w w' : World} {row : Option Nat} {g : Nat} {o : Obj} (h : w.grownBy w' row) (hg : w.heap[g]? = some o) (hne : row ≠ some g) : w'.heap[g]? = some o := by
  rw [h.block g (Array.getElem?_eq_some_iff.1 hg).1 (fun e => hne e.symm)]; exact hg
theorem below_block {B g : Nat} {w w' : World} {o : Obj} (h : Below B w w') (hg : w.heap[g]? = some o) (hB : g < B) : w'.heap[g]? = some o := by
  rw [h.block g hB]; exact hg
theorem heap_lt {w : World} {g : Nat} {o : Obj} (hg : w.heap[g]? = some o) : g < w.heap.size := (Array.getElem?_eq_some_iff.1 hg).1
theorem alloc_block {w : World} {g : Nat} {o o' : Obj} (hg : w.heap[g]? = some o) : (w.alloc o').heap[g]? = some o := by
  show (w.heap.push o')[g]? = _
  rw [Array.getElem?_push, if_neg (Nat.ne_of_lt (heap_lt hg))]; exact hg

theorem trim0_eq : ∀ (l : List Nat), l ≠ [] → trim0 l = if l.dropWhile (· == 48) = [] then [48] else l.dropWhile (· == 48)
  | [], h => absurd rfl h
  | [a], _ => by
    by_cases ha : a = 48
    · subst ha; rfl
    · have h1 : trim0 [a] = [a] := by unfold trim0; split <;> simp_all
      have h2 : [a].dropWhile (· == 48) = [a] := List.dropWhile_cons_of_neg (by simpa using ha)
      rw [h1, h2, if_neg (by simp)]
  | a :: b :: r, _ => by
    by_cases ha : a = 48
    · subst ha
      have h1 : trim0 (48 :: b :: r) = trim0 (b :: r) := by rw [trim0]
      rw [h1, trim0_eq (b :: r) (by simp), List.dropWhile_cons_of_pos (a := 48) (by rfl)]
    · have h1 : trim0 (a :: b :: r) = a :: b :: r := by unfold trim0; split <;> simp_all
      rw [h1, List.dropWhile_cons_of_neg (by simpa using ha), if_neg (by simp)]
theorem trim0_mem : ∀ (l : List Nat), ∀ c ∈ trim0 l, c ∈ l
  | [], c, h => by simp [trim0] at h
  | [a], c, h => by
    have h1 : trim0 [a] = [a] := by unfold trim0; split <;> simp_all
    rw [h1] at h; exact h
  | a :: b :: r, c, h => by
    by_cases ha : a = 48
    · subst ha
      have h1 : trim0 (48 :: b :: r) = trim0 (b :: r) := by rw [trim0]
      rw [h1] at h
      exact List.mem_cons_of_mem _ (trim0_mem (b :: r) c h)
    · have h1 : trim0 (a :: b :: r) = a :: b :: r := by unfold trim0; split <;> simp_all
      rw [h1] at h; exact h
theorem trim0_len : ∀ (l : List Nat), (trim0 l).length ≤ l.length
  | [] => by simp [trim0]
  | [a] => by
    have h1 : trim0 [a] = [a] := by unfold trim0; split <;> simp_all
    rw [h1]; exact Nat.le_refl _
  | a :: b :: r => by
    by_cases ha : a = 48
    · subst ha
      have h1 : trim0 (48 :: b :: r) = trim0 (b :: r) := by rw [trim0]
      rw [h1]
      exact Nat.le_trans (trim0_len (b :: r)) (by simp)
    · have h1 : trim0 (a :: b :: r) = a :: b :: r := by unfold trim0; split <;> simp_all
      rw [h1]; exact Nat.le_refl _
/-- A run of digits seen from an offset on. -/
theorem run_step {s : ByteArray} {k : Nat} (h : k < s.size) : ((bytesN s).drop k).takeWhile digB = (if digB s[k].toNat = true then s[k].toNat :: ((bytesN s).drop (k + 1)).takeWhile digB else []) := by
  rw [bytesN_drop s k h]
  by_cases hd : digB s[k].toNat = true
  · rw [List.takeWhile_cons_of_pos hd, if_pos hd]
  · rw [List.takeWhile_cons_of_neg hd, if_neg hd]
def RunAt (bs : List Nat) (num : Bool) (i k : Nat) : Prop :=
  (k = i ∧ ¬ (num = true ∧ ∃ c r, bs.drop i = c :: r ∧ digB c = true)) ∨ (i < k ∧ num = true ∧ (bs.drop i).takeWhile digB = (bs.take k).drop i ∧ (bs.drop i).dropWhile digB = bs.drop k)
def RunTo (bs : List Nat) (num : Bool) (i k : Nat) : Prop :=
  (num = true ∨ k = i) ∧ (bs.drop i).takeWhile digB = (bs.take k).drop i ++ (bs.drop k).takeWhile digB ∧ (bs.drop i).dropWhile digB = (bs.drop k).dropWhile digB
theorem RunTo.start (bs : List Nat) (num : Bool) (i : Nat) : RunTo bs num i i :=
  ⟨.inr rfl, by rw [show (bs.take i).drop i = [] from List.drop_eq_nil_of_le (by rw [List.length_take]; omega)]; rfl, rfl⟩
theorem RunTo.step {s : ByteArray} {num : Bool} {i k : Nat} (h : RunTo (bytesN s) num i k) (hn : num = true) (hi : i ≤ k) (hk : k < s.size) (hd : digB s[k].toNat = true) : RunTo (bytesN s) num i (k + 1) := by
  refine ⟨.inl hn, ?_, ?_⟩
  · have ht : ((bytesN s).take (k + 1)).drop i = ((bytesN s).take k).drop i ++ [s[k].toNat] := by
      have hg : (bytesN s)[k]? = some s[k].toNat := by
        have h1 := bytesN_drop s k hk
        have h2 : ((bytesN s).drop k)[0]? = some s[k].toNat := by rw [h1]; rfl
        rw [List.getElem?_drop, Nat.add_zero] at h2
        exact h2
      rw [List.take_add_one, hg, List.drop_append_of_le_length (by rw [List.length_take, bytesN_length]; omega)]
      rfl
    rw [h.2.1, run_step hk, if_pos hd, ht, List.append_assoc]
    rfl
  · rw [h.2.2, bytesN_drop s k hk, List.dropWhile_cons_of_pos hd]
theorem RunTo.off {bs : List Nat} {num : Bool} {i k : Nat} (h : RunTo bs num i k) (hn : num = false) : RunAt bs num i k := by
  rcases h.1 with h1 | h1
  · rw [hn] at h1; cases h1
  · exact .inl ⟨h1, fun ⟨h2, _⟩ => by rw [hn] at h2; cases h2⟩
theorem RunTo.stop {s : ByteArray} {num : Bool} {i k : Nat} (h : RunTo (bytesN s) num i k) (hn : num = true) (hi : i ≤ k) (his : i < s.size) (hk : k = s.size ∨ ∃ h : k < s.size, digB s[k].toNat = false) : RunAt (bytesN s) num i k := by
  have ht : ((bytesN s).drop k).takeWhile digB = [] := by
    rcases hk with hk | ⟨hk, hd⟩
    · rw [List.drop_eq_nil_of_le (by rw [bytesN_length]; omega)]; rfl
    · rw [run_step hk, if_neg (by rw [hd]; simp)]
  have hw : ((bytesN s).drop k).dropWhile digB = (bytesN s).drop k := by
    rcases hk with hk | ⟨hk, hd⟩
    · rw [List.drop_eq_nil_of_le (by rw [bytesN_length]; omega)]; rfl
    · rw [bytesN_drop s k hk, List.dropWhile_cons_of_neg (by rw [hd]; simp)]
  by_cases hik : k = i
  · refine .inl ⟨hik, ?_⟩
    rintro ⟨_, c, r, hc, hd⟩
    subst hik
    rw [hc, List.takeWhile_cons_of_pos hd] at ht
    cases ht
  · exact .inr ⟨by omega, hn, by rw [h.2.1, ht, List.append_nil], by rw [h.2.2, hw]⟩
theorem digs_all : ∀ (l : List Nat), ∀ c ∈ l.takeWhile digB, 48 ≤ c ∧ c ≤ 57
  | [], c, h => by simp at h
  | a :: r, c, h => by
    by_cases hd : digB a = true
    · rw [List.takeWhile_cons_of_pos hd] at h
      rcases List.mem_cons.1 h with rfl | h
      · unfold digB at hd; simpa using hd
      · exact digs_all r c h
    · rw [List.takeWhile_cons_of_neg hd] at h; simp at h
theorem RunAt.digits {s : ByteArray} {o : Opt} {i k : Nat} (h : RunAt (bytesN s) o.num i k) (hv : (pts ((bytesN s).drop i)).isSome = true) (hik : i < k) (hk : k ≤ s.size) :
    elems o (ptL ((bytesN s).drop i)) = numberE (((bytesN s).take k).drop i) ++ elems o (ptL ((bytesN s).drop k)) ∧ (pts ((bytesN s).drop k)).isSome = true ∧ (∀ c ∈ ((bytesN s).take k).drop i, 48 ≤ c ∧ c ≤ 57) ∧ (((bytesN s).take k).drop i).length = k - i := by
  have hlen : (((bytesN s).take k).drop i).length = k - i := by rw [List.length_drop, List.length_take, bytesN_length]; omega
  rcases h with ⟨h, _⟩ | ⟨_, hn, h1, h2⟩
  · omega
  have hi : i < s.size := by omega
  have hd0 := bytesN_drop s i hi
  obtain ⟨c, hc⟩ : ∃ c, c = s[i].toNat := ⟨_, rfl⟩
  obtain ⟨r, hr⟩ : ∃ r, r = (bytesN s).drop (i + 1) := ⟨_, rfl⟩
  rw [← hc, ← hr] at hd0
  have hdc : digB c = true := by
    by_cases hd : digB c = true
    · exact hd
    · rw [hd0, List.takeWhile_cons_of_neg hd] at h1
      rw [← h1] at hlen
      simp at hlen
      omega
  rw [hd0] at hv h1 h2
  obtain ⟨e1, e2⟩ := elems_run hn hdc hv
  have hall := digs_all (c :: r)
  rw [h1] at hall
  rw [List.takeWhile_cons_of_pos hdc] at h1
  rw [List.dropWhile_cons_of_pos hdc] at h2
  rw [hd0, e1, h1, h2]
  rw [h2] at e2
  exact ⟨rfl, e2, hall, hlen⟩
theorem numE_take (acc : List El) (b : Nat) (u : List Nat) (j c : Nat) (h : u[j]? = some c) : acc ++ [baseE b] ++ ((u.take (j + 1)).map fun c => baseE (512 + c - 48)) = acc ++ [baseE b] ++ ((u.take j).map fun c => baseE (512 + c - 48)) ++ [baseE (512 + c - 48)] := by
  rw [List.take_add_one, h]
  simp
theorem point_len (c : Nat) (o : Opt) : (pointE c o).length ≤ 2 := by
  unfold pointE
  repeat' split
  all_goals simp

set_option maxRecDepth 100000 in
set_option maxHeartbeats 4000000 in
theorem elements_lib (s : ByteArray) (o : Opt) (w : World) (hs : s.size ≤ 1048576) (hv : (pts (bytesN s)).isSome = true) :
    Calls Tryd.prog 36 #[.string s, optV o] w (ElsE w (elems o (ptL (bytesN s)))) := by
  obtain ⟨i0, hi, hz0, hz1, hz2⟩ := info_parts info58
  obtain ⟨st, num, ign, up⟩ := o
  show Calls Tryd.prog 36 #[.string s, .agg #[.int .i64 st, .bool num, .bool ign, .bool up]] w (ElsE w (elems ⟨st, num, ign, up⟩ (ptL (bytesN s))))
  obtain ⟨L, hL⟩ : ∃ L, L = elems ⟨st, num, ign, up⟩ (ptL (bytesN s)) := ⟨_, rfl⟩
  have HL : Hid (L = elems ⟨st, num, ign, up⟩ (ptL ((bytesN s).drop 0))) := Lib.hid hL
  have HV0 : Hid ((pts ((bytesN s).drop 0)).isSome = true) := Lib.hid hv
  rw [← hL]
  clear hL hv
  go_enter Tryd.func36, Tryd.ntmps36
  go_wp2_with fail
  have B0 := Box.start w st num ign up
  have b0 : Below w.heap.size w (w.alloc (.cells #[.int .i64 st, .bool num, .bool ign, .bool up] 23)) := (Below.refl w.heap.size w).alloc (Nat.le_refl _) _
  have z0 : w.heap.size < (w.alloc (.cells #[.int .i64 st, .bool num, .bool ign, .bool up] 23)).heap.size := by simp
  obtain ⟨w0, hw0⟩ : ∃ w0, w0 = w.alloc (.cells #[.int .i64 st, .bool num, .bool ign, .bool up] 23) := ⟨_, rfl⟩
  rw [← hw0] at B0 b0 z0 ⊢
  clear hw0
  have BB := Lib.hid B0
  clear B0
  go_loopw [5, 6] (fun ov iv wr => ∃ (i : Nat) (acc : List El), i ≤ s.size ∧ iv = .int .i64 i ∧ Hid (L = acc ++ elems ⟨st, num, ign, up⟩ (ptL ((bytesN s).drop i))) ∧ Hid ((pts ((bytesN s).drop i)).isSome = true) ∧ acc.length ≤ 2 * i ∧ Own encE 3 58 wr w0.heap.size ov acc ∧ Below w0.heap.size w0 wr) (fun _ iv _ => s.size - (intOf iv).toNat)
  case atStart => exact ⟨0, [], Nat.zero_le _, rfl, Lib.hid (by rw [HL.out]; rfl), HV0, by simp, Own.nil _ _, Below.refl _ _⟩
  case round =>
    obtain ⟨i, acc, hi1, rfl, HA, HV, hal, hown, hb⟩ := hrel
    clear HL HV0
    have hbz := hb.size
    by_cases hlt : i < s.size
    · obtain ⟨c0, c1, c2, c3⟩ := BB.out.over hb
      go_upto_block 2 with fail
      go_cut [7] from 14 to 90 (fun kv wx => ∃ k : Nat, kv = .int .i64 k ∧ i ≤ k ∧ k ≤ s.size ∧ wx = wr ∧ Hid (RunAt (bytesN s) num i k))
      case first =>
        go_wp2_with fail
        go_loop [7] (fun kv => ∃ k : Nat, kv = .int .i64 k ∧ i ≤ k ∧ k ≤ s.size ∧ Hid (RunTo (bytesN s) num i k)) (fun kv => s.size - (intOf kv).toNat)
        case atStart => exact ⟨i, rfl, Nat.le_refl _, hi1, Lib.hid (RunTo.start _ _ _)⟩
        case round =>
          obtain ⟨k, rfl, hk1, hk2, HR⟩ := hrel
          cases hn : num with
          | false =>
            subst hn
            have HS : Hid (RunAt (bytesN s) false i k) := Lib.hid (HR.out.off rfl)
            clear HR
            go_wp2_with fail
            go_meet
            exact ⟨k, rfl, hk1, hk2, rfl, HS⟩
          | true =>
            subst hn
            by_cases hks : k < s.size
            · have hks' : (k : Int) < s.size := by omega
              obtain ⟨b, hb0⟩ : ∃ b, s[k].toNat = b := ⟨_, rfl⟩
              have hD : digB s[k].toNat = decide (48 ≤ b ∧ b ≤ 57) := by rw [hb0]; rfl
              by_cases hlo : 48 ≤ b
              · have d1 : decide (48 ≤ (b : Int)) = true := by simp; omega
                by_cases hhi : b ≤ 57
                · have d2 : decide ((b : Int) ≤ 57) = true := by simp; omega
                  have HN : Hid (RunTo (bytesN s) true i (k + 1)) := Lib.hid (HR.out.step rfl hk1 hks (by rw [hD]; simp; omega))
                  have ek : IntKind.i64.wrap ((k : Int) + 1) = (k : Int) + 1 := IntWalk.i64_in _ (by omega)
                  clear HR hD
                  go_wp2_with fail
                  go_round
                  case rel => exact ⟨k + 1, by go_num, by omega, by omega, HN⟩
                  case measure => simp [intOf]; omega
                · have d2 : decide ((b : Int) ≤ 57) = false := by simp; omega
                  have HS : Hid (RunAt (bytesN s) true i k) := Lib.hid (HR.out.stop rfl hk1 hlt (.inr ⟨hks, by rw [hD]; simp; omega⟩))
                  clear HR hD
                  go_wp2_with fail
                  go_meet
                  exact ⟨k, rfl, hk1, hk2, rfl, HS⟩
              · have d1 : decide (48 ≤ (b : Int)) = false := by simp; omega
                have HS : Hid (RunAt (bytesN s) true i k) := Lib.hid (HR.out.stop rfl hk1 hlt (.inr ⟨hks, by rw [hD]; simp; omega⟩))
                clear HR hD
                go_wp2_with fail
                go_meet
                exact ⟨k, rfl, hk1, hk2, rfl, HS⟩
            · have HS : Hid (RunAt (bytesN s) true i k) := Lib.hid (HR.out.stop rfl hk1 hlt (.inl (by omega)))
              clear HR
              go_wp2_with fail
              go_meet
              exact ⟨k, rfl, hk1, hk2, rfl, HS⟩
      case rest =>
        obtain ⟨k, rfl, hk1, hk2, rfl, HR⟩ := hcut
        by_cases hik : i < k
        · obtain ⟨hE, hv2, hR, hrl⟩ := RunAt.digits (o := ⟨st, num, ign, up⟩) HR.out HV.out hik hk2
          have HA2 : Hid (L = (acc ++ numberE (((bytesN s).take k).drop i)) ++ elems ⟨st, num, ign, up⟩ (ptL ((bytesN s).drop k))) := Lib.hid (by rw [HA.out, hE, List.append_assoc])
          have HV2 : Hid ((pts ((bytesN s).drop k)).isSome = true) := Lib.hid hv2
          have hxs : (s.extract i k).size = k - i := by rw [← bytesN_length, bytesN_extract]; exact hrl
          have CT := Lib.hid (trim_lib (s.extract i k) · (by omega) (by omega))
          rw [bytesN_extract] at CT
          obtain ⟨R, hRR⟩ : ∃ R, R = ((bytesN s).take k).drop i := ⟨_, rfl⟩
          rw [← hRR] at HA2 hR hrl CT
          have hR0 : R ≠ [] := by intro h; rw [h] at hrl; simp at hrl; omega
          have HT0 : Hid (trim0 R = if R.dropWhile (· == 48) = [] then [48] else R.dropWhile (· == 48)) := Lib.hid (trim0_eq R hR0)
          have HTM : Hid (∀ c ∈ trim0 R, 48 ≤ c ∧ c ≤ 57) := Lib.hid (fun c hc => hR c (trim0_mem R c hc))
          have HTL : (trim0 R).length ≤ k - i := by rw [← hrl]; exact trim0_len R
          have HNE : Hid (numberE R = baseE (768 + (trim0 R).length) :: (trim0 R).map fun c => baseE (512 + c - 48)) := Lib.hid rfl
          have kk1 : (i : Int) < k := by omega
          have kk2 : (k : Int) ≤ s.size := by omega
          clear hE hv2 hR hRR hR0 HA HV HR hxs c0 c1 c2 c3
          go_wp2_with fail
          refine (CT.out _).mono ?_
          rintro e wt ⟨⟨t, rfl, ht⟩, rfl⟩
          rw [← ht] at HT0
          clear CT ht
          have hu : ∃ u : ByteArray, bytesN u = trim0 R ∧ ((t.size = 0 ∧ u = ⟨#[48]⟩) ∨ (0 < t.size ∧ u = t)) := by
            by_cases h0 : t.size = 0
            · have hn : bytesN t = [] := List.eq_nil_of_length_eq_zero (by rw [bytesN_length]; exact h0)
              exact ⟨⟨#[48]⟩, by rw [HT0.out, if_pos hn]; rfl, .inl ⟨h0, rfl⟩⟩
            · have hn : bytesN t ≠ [] := fun h => by rw [← bytesN_length, h] at h0; exact h0 rfl
              exact ⟨t, by rw [HT0.out, if_neg hn], .inr ⟨by omega, rfl⟩⟩
          obtain ⟨u, hub, hut⟩ := hu
          rw [← hub] at HTM HTL HNE
          rw [bytesN_length] at HTL HNE
          clear HT0 hub
          have HU1 : Hid (∀ j, (h : j < u.size) → (bytesN u)[j]? = some u[j].toNat) := Lib.hid (fun j h => by
            have h1 := bytesN_drop u j h
            have h2 : ((bytesN u).drop j)[0]? = some u[j].toNat := by rw [h1]; rfl
            rw [List.getElem?_drop, Nat.add_zero] at h2
            exact h2)
          go_upto_if 50 with fail
          go_cut [8] from 14 to 90 (fun uv wx => uv = .string u ∧ wx = wc)
          case first =>
            rcases hut with ⟨h0, rfl⟩ | ⟨h0, rfl⟩
            · have ht : t = ⟨#[]⟩ := by
                obtain ⟨d⟩ := t
                congr
                exact Array.eq_empty_of_size_eq_zero h0
              have hem : t.toList.isEmpty = true := by rw [ht]; first | rfl | decide | simp
              rw [hem]
              go_wp2_with fail
              go_meet
              exact ⟨rfl, rfl⟩
            · have hem : u.toList.isEmpty = false := by
                cases hh : u.toList with
                | nil => exact absurd hh (nil_ne h0)
                | cons => rfl
              rw [hem]
              go_wp2_with fail
              go_meet
              exact ⟨rfl, rfl⟩
          case rest =>
            obtain ⟨rfl, rfl⟩ := hcut
            have hu1 : 1 ≤ u.size ∧ u.size ≤ k - i := ⟨by rcases hut with ⟨_, rfl⟩ | ⟨h, rfl⟩ <;> first | exact h | decide, HTL⟩
            clear hut
            obtain ⟨m, hm⟩ : ∃ m, m = 768 + u.size := ⟨_, rfl⟩
            have EM : Hid (768 + (u.size : Int) = (m : Int)) := Lib.hid (by omega)
            rw [← hm] at HNE
            clear hm
            go_wp2_with fail
            rw [EM.out]
            refine (base_lib m _).mono ?_
            rw [show elV (baseE m) = .agg #[.int .i64 (m : Int), .int .i64 32, .int .i64 2] from rfl]
            rintro e w2 ⟨rfl, hb2⟩
            have hO2 : Own encE 3 58 w2 w0.heap.size _ acc := hown.over hb2
            have hb3 : Below w0.heap.size w0 w2 := hb.trans (hb2.mono hbz)
            have hbz3 := hb3.size
            clear hb2
            go_wp2_with (at_builtin; refine wpList_push _ rfl _ _ 51 rfl w0.heap.size 58 i0 _ 3 24 Tryd.underlying51 hi hz0 hz1 hz2 rfl (by decide) encE_length encE_each _ acc rfl (Own.alloc hO2 _) w2.heap.size 1 (baseE m) rfl (cells_new w2 (encE (baseE m)) 58) (by omega) (by omega) (by simp; omega) ?_; intro v3 w3 hown3 hg3; have hb4 : Below w0.heap.size w0 w3 := (hb3.alloc hbz3 (.cells #[.int .i64 (m : Int), .int .i64 32, .int .i64 2] 58)).trans (Own.belowG (Own.alloc hO2 (.cells #[.int .i64 (m : Int), .int .i64 32, .int .i64 2] 58)) (by simp; omega) hg3); have kc := run_bytes_of_string (P := Tryd.prog) w3 9 49 5 u Tryd.underlying9 Tryd.underlying49 Tryd.underlying5; obtain ⟨cap, hcap⟩ : ∃ c, c = grownCap w3 u.size 0 5 := ⟨_, rfl⟩; rw [← hcap] at kc; clear hcap; obtain ⟨C, hC⟩ : ∃ C, C = bytesRow u cap := ⟨_, rfl⟩; have HC : Hid (∀ j, (h : j < u.size) → C[j]? = some (.int .u8 (u[j].toNat : Int))) := Lib.hid (fun j h => by rw [hC]; exact bytesRow_at u cap j h); rw [← hC] at kc; clear hC)
            have hO4 : Own encE 3 58 (w3.alloc (.cells C 5 (C.size, C.size + 1))).drew w0.heap.size v3 (acc ++ [baseE m]) := Own.drew (hown3.alloc _)
            have hBk : (w3.alloc (.cells C 5 (C.size, C.size + 1))).drew.heap[w3.heap.size]? = some (.cells C 5 (C.size, C.size + 1)) := heap_alloc_new w3 _
            have hb5 : Below w0.heap.size w0 (w3.alloc (.cells C 5 (C.size, C.size + 1))).drew := (hb4.alloc hb4.size _).drew
            obtain ⟨g, hg⟩ : ∃ g, g = w3.heap.size := ⟨_, rfl⟩
            have hgz : w0.heap.size ≤ g := by rw [hg]; exact hb4.size
            rw [← hg] at hBk ⊢
            obtain ⟨w4, hw4⟩ : ∃ w4, w4 = (w3.alloc (.cells C 5 (C.size, C.size + 1))).drew := ⟨_, rfl⟩
            rw [← hw4] at hO4 hBk hb5 ⊢
            clear hw4 hg hown3 hb4 kc hg3 hO2 hb3 hbz3
            have HNL : (numberE R).length = 1 + u.size := by rw [HNE.out, List.length_cons, List.length_map, bytesN_length]; omega
            go_loopw [5, 61] (fun ov jv wr => ∃ j : Nat, j ≤ u.size ∧ jv = .int .i64 j ∧ Own encE 3 58 wr w0.heap.size ov (acc ++ [baseE m] ++ ((bytesN u).take j).map fun c => baseE (512 + c - 48)) ∧ wr.heap[g]? = some (.cells C 5 (C.size, C.size + 1)) ∧ Below w0.heap.size w0 wr) (fun _ jv _ => u.size - (intOf jv).toNat)
            case atStart => exact ⟨0, Nat.zero_le _, rfl, by rw [List.take_zero, List.map_nil, List.append_nil]; exact hO4, hBk, hb5⟩
            case round =>
              obtain ⟨j, hj, rfl, hownq, hBq, hbq⟩ := hrel
              clear hO4 hBk hb5
              have hbqz := hbq.size
              by_cases hju : j < u.size
              · have hju' : (j : Int) < u.size := by omega
                obtain ⟨c, hc⟩ : ∃ c, c = u[j].toNat := ⟨_, rfl⟩
                have hcl : wr.cell? ⟨g, j, none⟩ = some (.int .u8 (c : Int)) := by rw [cell_of_row wr g j C 5 _ hBq, hc]; exact HC.out j hju
                have hcm : (bytesN u)[j]? = some c := by rw [hc]; exact HU1.out j hju
                have hcb := HTM.out c (List.mem_of_getElem? hcm)
                have HNX : Hid (acc ++ [baseE m] ++ (((bytesN u).take (j + 1)).map fun c => baseE (512 + c - 48)) = acc ++ [baseE m] ++ (((bytesN u).take j).map fun c => baseE (512 + c - 48)) ++ [baseE (512 + c - 48)]) := Lib.hid (numE_take acc m (bytesN u) j c hcm)
                have hql : (acc ++ [baseE m] ++ (((bytesN u).take j).map fun c => baseE (512 + c - 48))).length ≤ acc.length + 1 + u.size := by rw [List.length_append, List.length_append, List.length_map, List.length_take]; simp; omega
                obtain ⟨A, hA⟩ : ∃ A, A = acc ++ [baseE m] ++ (((bytesN u).take j).map fun c => baseE (512 + c - 48)) := ⟨_, rfl⟩
                rw [← hA] at HNX hql hownq
                obtain ⟨x, hx⟩ : ∃ x, x = 512 + c - 48 := ⟨_, rfl⟩
                obtain ⟨d, hd⟩ : ∃ d, d = c - 48 := ⟨_, rfl⟩
                rw [← hx] at HNX
                have e1 : IntKind.u8.wrap ((c : Int) - 48) = (d : Int) := by
                  rw [show (c : Int) - 48 = (d : Int) by omega]
                  unfold IntKind.wrap
                  simp [IntKind.bits]
                  omega
                have e0 : IntKind.i64.wrap (d : Int) = (d : Int) := IntWalk.i64_in _ (by omega)
                have e2 : IntKind.i64.wrap (512 + (d : Int)) = (x : Int) := by rw [IntWalk.i64_in _ (by omega)]; omega
                clear hA hx hd hc hcm
                go_wp2_with fail
                refine (base_lib x _).mono ?_
                rw [show elV (baseE x) = .agg #[.int .i64 (x : Int), .int .i64 32, .int .i64 2] from rfl]
                rintro e w5 ⟨rfl, hb5⟩
                have hO5 : Own encE 3 58 w5 w0.heap.size _ A := hownq.over hb5
                have hB5 : w5.heap[g]? = some (.cells C 5 (C.size, C.size + 1)) := below_block hb5 hBq (heap_lt hBq)
                have hb6 : Below w0.heap.size w0 w5 := hbq.trans (hb5.mono hbqz)
                have hbz6 := hb6.size
                clear hb5
                go_wp2_with (at_builtin; refine wpList_push _ rfl _ _ 51 rfl w0.heap.size 58 i0 _ 3 24 Tryd.underlying51 hi hz0 hz1 hz2 rfl (by decide) encE_length encE_each _ A rfl (Own.alloc hO5 _) w5.heap.size 1 (baseE x) rfl (cells_new w5 (encE (baseE x)) 58) (by omega) (by omega) (by simp; omega) ?_; intro v7 w7 hown7 hg7; have hb7 : Below w0.heap.size w0 w7 := (hb6.alloc hbz6 (.cells #[.int .i64 (x : Int), .int .i64 32, .int .i64 2] 58)).trans (Own.belowG (Own.alloc hO5 (.cells #[.int .i64 (x : Int), .int .i64 32, .int .i64 2] 58)) (by simp; omega) hg7); have hB7 : w7.heap[g]? = some (.cells C 5 (C.size, C.size + 1)) := grown_block hg7 (alloc_block hB5) (Own.ne_block hO5 hB5 (by decide)); clear hg7)
                go_roundw
                case rel => exact ⟨j + 1, by omega, by go_num, by rw [HNX.out]; exact hown7, hB7, hb7⟩
                case measure => simp [intOf]; omega
              · have hju2 : j = u.size := by omega
                have HFI : Hid (acc ++ [baseE m] ++ (((bytesN u).take j).map fun c => baseE (512 + c - 48)) = acc ++ numberE R) := Lib.hid (by
                  rw [HNE.out, List.take_of_length_le (by rw [bytesN_length]; omega), List.append_assoc, List.singleton_append])
                clear hju
                subst hju2
                go_wp2_with fail
                go_roundw
                case rel => exact ⟨k, acc ++ numberE R, hk2, rfl, HA2, HV2, by rw [List.length_append, HNL]; omega, by rw [← HFI.out]; exact hownq, hbq⟩
                case measure => simp [intOf]; omega
        · have hki : k = i := by omega
          subst hki
          have HNR : Hid (¬ ((⟨st, num, ign, up⟩ : Opt).num = true ∧ ∃ c r, (bytesN s).drop k = c :: r ∧ digB c = true)) := Lib.hid (by
            rcases HR.out with h | h
            · exact h.2
            · exact absurd h.1 hik)
          clear HR hik
          have hlt' : (k : Int) < s.size := by omega
          obtain ⟨p, n, hd⟩ := pts_dec HV.out (drop_ne hlt)
          obtain ⟨n1, n2, n3, n4⟩ := dec_in hlt hd
          obtain ⟨hE, hv2⟩ := elems_one hd HV.out HNR.out
          have HA2 : Hid (L = (acc ++ pointE p ⟨st, num, ign, up⟩) ++ elems ⟨st, num, ign, up⟩ (ptL ((bytesN s).drop (k + n)))) := Lib.hid (by rw [HA.out, hE, List.drop_drop, List.append_assoc])
          have HV2 : Hid ((pts ((bytesN s).drop (k + n))).isSome = true) := Lib.hid (by rw [← List.drop_drop]; exact hv2)
          have hpl := point_len p ⟨st, num, ign, up⟩
          have CP := Lib.hid (point_lib p ⟨st, num, ign, up⟩ · n4)
          obtain ⟨X, hX⟩ : ∃ X, X = pointE p ⟨st, num, ign, up⟩ := ⟨_, rfl⟩
          rw [← hX] at HA2 hpl CP
          have CA := Lib.hid (at_lib s k p n · (by omega) hlt hd)
          have e1 : IntKind.i64.wrap ((k : Int) + n) = ((k + n : Nat) : Int) := by rw [IntWalk.i64_in _ (by omega)]; omega
          have dm : ¬ (n : Int) < 1 := by omega
          have dn : decide ((n : Int) < 1) = false := by simp; omega
          have hX2 : X.length ≤ 2 * n := by omega
          clear hX hE hv2 hd HA HV HNR
          go_wp2_with fail
          refine (CA.out _).mono ?_
          rintro e wa ⟨rfl, rfl⟩
          go_wp2_with fail
          refine (CP.out _).mono ?_
          rintro e w2 ⟨vx, rfl, hsx, hb2⟩
          have hO2 : Own encE 3 58 w2 w0.heap.size _ acc := hown.over hb2
          have hb3 : Below w0.heap.size w0 w2 := hb.trans (hb2.mono hbz)
          have hbz3 := hb3.size
          clear hb2
          go_wp2_with (at_builtin; refine wpList_app _ rfl _ _ 51 rfl w0.heap.size 58 i0 _ 3 24 Tryd.underlying51 hi hz0 hz1 hz2 rfl (by decide) encE_length encE_each _ acc rfl hO2 w2.heap.size vx X rfl hsx (by omega) (by omega) hbz3 ?_; intro v3 w3 hown3 hg3)
          have hb4 : Below w0.heap.size w0 w3 := hb3.trans (hO2.belowG hbz3 hg3)
          go_roundw
          case rel => exact ⟨k + n, acc ++ X, by omega, by go_num, HA2, HV2, by rw [List.length_append]; omega, hown3, hb4⟩
          case measure => simp [intOf]; omega
    · have HF : Hid (acc = L) := Lib.hid (by rw [HA.out, List.drop_eq_nil_of_le (by rw [bytesN_length]; omega), ptL_nil, elems_nil, List.append_nil])
      have bb : Below w.heap.size w wr := b0.trans (hb.mono (by omega))
      clear HA HV
      go_wp2_with fail
      go_ret
      exact ⟨_, rfl, by rw [← HF.out]; exact hown.sl encE_length, bb⟩
end Go.Proofs.YtknnjnginmkblaaDoor
