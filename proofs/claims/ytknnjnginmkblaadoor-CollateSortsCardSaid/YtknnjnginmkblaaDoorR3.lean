/- Walks: the reference's elements of a run of digits; options for the reference. -/
import Derived.Test.YtknnjnginmkblaaDoorW27
import Derived.Test.YtknnjnginmkblaaDoorR1
namespace Go.Proofs.YtknnjnginmkblaaDoor
open Go.RowKit

theorem info59 : (Tryd.prog.info? 59).map (fun i => (i.zero, i.size, i.bytes)) = some (some (.agg #[.int .i64 0, .int .i64 0, .int .i64 0]), 3, 24) := by kernel_rfl
theorem info31 : (Tryd.prog.info? 31).map (fun i => (i.size)) = some 4 := by kernel_rfl
theorem Ints.tail {w : World} {B b o c : Nat} {x : Nat} {r : List Nat} (h : Sl encI 1 w B (.slice (some ⟨b, o, none⟩) (x :: r).length c) (x :: r)) (hr : r ≠ []) :
    Sl encI 1 w B (.slice (some ⟨b, o + 1, none⟩) r.length (c - 1)) r := by
  obtain ⟨A', c', hv, h1, h2, h3⟩ := h
  injection hv with e1 e2 e3
  subst e3
  obtain ⟨b', o', hA, hb, hc⟩ := h3 (by simp)
  rw [hA] at e1
  injection e1 with e1
  injection e1 with e1 e2 _
  subst e1 e2
  rw [List.length_cons] at h1
  refine ⟨_, _, rfl, by omega, by omega, fun _ => ⟨b, o + 1, rfl, hb, fun i y hy j u hu => ?_⟩⟩
  have := hc (i + 1) y (by rw [List.getElem?_cons_succ]; exact hy) j u hu
  rw [← this]
  congr 2
  omega
theorem trim0_step {x : Nat} {r : List Nat} (hr : r ≠ []) (hx : x = 48) : trim0 (x :: r) = trim0 r := by
  obtain ⟨y, q, rfl⟩ := List.exists_cons_of_ne_nil hr
  subst hx
  rw [trim0]
theorem trim0_stop {l : List Nat} (h : l.length ≤ 1 ∨ l[0]? ≠ some 48) : trim0 l = l := by
  match l with
  | [] => rfl
  | [a] => unfold trim0; split <;> simp_all
  | a :: b :: r =>
    have ha : a ≠ 48 := by
      rcases h with h | h
      · simp at h
      · intro e; exact h (by rw [e]; rfl)
    unfold trim0
    split
    · simp_all
    · rfl
def lenSl : Value → Nat
  | .slice _ n _ => n
  | _ => 0
theorem Own.lit {α : Type} {enc : α → List Value} {sz : Nat} (w : World) (E : TypeId) (base : Nat) (l : List α) (he : ∀ x, (enc x).length = sz) (hb : base ≤ w.heap.size) (hl : l.length ≤ maxLen) :
    Own enc sz E (w.alloc (.cells (l.flatMap enc).toArray E)) base (.slice (some ⟨w.heap.size, 0, none⟩) l.length l.length) l := by
  have := World.ownsRow_lit (base := base) (e := E) (size := sz) w (l.flatMap enc).toArray l.length hb hl (by simp [flatMap_length he])
  simpa [Own] using this

set_option maxRecDepth 100000 in
set_option maxHeartbeats 4000000 in
theorem number_lib (v : Value) (l : List Nat) (w : World) (hv : Sl encI 1 w w.heap.size v l) (h0 : l ≠ []) (hd : ∀ c ∈ l, 48 ≤ c ∧ c ≤ 57) (hl : l.length ≤ 1000000) :
    Calls Tryd.prog 46 #[v] w (ElsE w (numberE l)) := by
  obtain ⟨i0, hi, hz0, hz1, hz2⟩ := info_parts info59
  obtain ⟨N, hN⟩ : ∃ N, N = numberE l := ⟨_, rfl⟩
  have HN : Hid (N = baseE (768 + (trim0 l).length) :: (trim0 l).map fun c => baseE (512 + c - 48)) := Lib.hid hN
  rw [← hN]
  have H0 : Hid (Sl encI 1 w w.heap.size v l ∧ l ≠ [] ∧ ∀ c ∈ l, 48 ≤ c ∧ c ≤ 57) := Lib.hid ⟨hv, h0, hd⟩
  clear hN hv h0 hd
  have HTL := Lib.hid (trim0_len l)
  have HTM : Hid (∀ c ∈ trim0 l, 48 ≤ c ∧ c ≤ 57) := Lib.hid (fun c hc => H0.out.2.2 c (trim0_mem l c hc))
  go_enter Tryd.func46, Tryd.ntmps46
  go_upto_block 0 with fail
  go_cut [0] from 5 to 37 (fun rv wx => Sl encI 1 w w.heap.size rv (trim0 l) ∧ wx = w)
  case first =>
    go_wp2_with fail
    go_loop [0] (fun rv => ∃ m : List Nat, Hid (Sl encI 1 w w.heap.size rv m ∧ m ≠ []) ∧ m.length ≤ l.length ∧ lenSl rv = m.length ∧ Hid (trim0 m = trim0 l)) (fun rv => lenSl rv)
    case atStart => exact ⟨l, Lib.hid ⟨H0.out.1, H0.out.2.1⟩, Nat.le_refl _, by obtain ⟨A, c, rfl, _⟩ := H0.out.1; rfl, Lib.hid rfl⟩
    case round =>
      obtain ⟨m, HM, hml, hln, HT⟩ := hrel
      clear H0
      obtain ⟨hs, hm0⟩ := HM.out
      obtain ⟨x, r, rfl⟩ := List.exists_cons_of_ne_nil hm0
      obtain ⟨A, c, hv2, hlc, hcm, _⟩ := id hs
      subst hv2
      obtain ⟨b, o, hA, hbB, c0⟩ := Ints.at hs 0 x rfl
      subst hA
      rw [Nat.add_zero] at c0
      unfold maxLen at hcm
      have HS := Lib.hid hs
      have HL : Hid ((x :: r).length = r.length + 1) := Lib.hid rfl
      obtain ⟨n, hn⟩ : ∃ n, n = (x :: r).length := ⟨_, rfl⟩
      rw [← hn] at HS hlc hml hln HL ⊢
      clear hs hm0 HM
      by_cases h1 : 1 < n
      · have h1' : (1 : Int) < (n : Int) := by omega
        have d1 : decide ((1 : Int) < (n : Int)) = true := by simp; omega
        by_cases hx : x = 48
        · have hr : r ≠ [] := by intro h; rw [h] at hn; simp at hn; omega
          have e0 : ((x : Int) == 48) = true := by simp; omega
          have HS2 : Hid (Sl encI 1 w w.heap.size (.slice (some ⟨b, o + 1, none⟩) (n - 1) (c - 1)) r) := Lib.hid (by
            have h := HS.out
            rw [hn] at h
            have h2 := Ints.tail h hr
            rw [hn, List.length_cons, Nat.add_sub_cancel]
            exact h2)
          have HT2 : Hid (trim0 r = trim0 l) := Lib.hid (by rw [← trim0_step hr hx]; exact HT.out)
          have HR : Hid (r ≠ []) := Lib.hid hr
          have k1 : (1 : Int) ≤ (n : Int) := by omega
          have k2 : (n : Int) ≤ (c : Int) := by omega
          have k3 : ¬ c = 1 := by omega
          clear HS HT hr hx hn
          go_wp2_with fail
          go_round
          case rel => exact ⟨r, Lib.hid ⟨HS2.out, HR.out⟩, by have := HL.out; omega, by have := HL.out; show n - 1 = r.length; omega, HT2⟩
          case measure => show n - 1 < n; omega
        · have e0 : ((x : Int) == 48) = false := by rw [beq_eq_false_iff_ne]; omega
          have HV : Hid (Sl encI 1 w w.heap.size (.slice (some ⟨b, o, none⟩) n c) (trim0 l)) := Lib.hid (by
            rw [← HT.out, trim0_stop (.inr (by simpa using hx))]; exact HS.out)
          clear HS HT hx hn
          go_wp2_with fail
          go_meet
          exact ⟨HV.out, rfl⟩
      · have d1 : decide ((1 : Int) < (n : Int)) = false := by simp; omega
        have d1' : ¬ (1 : Int) < (n : Int) := by omega
        have HV : Hid (Sl encI 1 w w.heap.size (.slice (some ⟨b, o, none⟩) n c) (trim0 l)) := Lib.hid (by
            rw [← HT.out, trim0_stop (.inl (by rw [← hn]; omega))]; exact HS.out)
        clear HS HT hn
        go_wp2_with fail
        go_meet
        exact ⟨HV.out, rfl⟩
  case rest =>
    obtain ⟨hs, rfl⟩ := hcut
    obtain ⟨D, hD⟩ : ∃ D, D = trim0 l := ⟨_, rfl⟩
    rw [← hD] at hs HN HTL HTM
    obtain ⟨A, c, rfl, hlc, hcm, _⟩ := id hs
    unfold maxLen at hcm
    have HS := Lib.hid hs
    obtain ⟨n, hn⟩ : ∃ n, n = D.length := ⟨_, rfl⟩
    have hnl : n ≤ 1000000 := by rw [hn]; have := HTL.out; omega
    rw [← hn] at HS hlc HN ⊢
    have HNN := Lib.hid hn
    obtain ⟨m, hm⟩ : ∃ m, m = 768 + n := ⟨_, rfl⟩
    have em : IntKind.i64.wrap (768 + (n : Int)) = (m : Int) := by rw [IntWalk.i64_in _ (by omega)]; omega
    rw [← hm] at HN
    clear hs hD hm hn HTL H0
    go_wp2_with fail
    refine (rbase_lib m _).mono ?_
    rw [show elV (baseE m) = .agg #[.int .i64 (m : Int), .int .i64 32, .int .i64 2] from rfl]
    rintro e w2 ⟨rfl, b2⟩
    have hz := b2.size
    go_wp2_with fail
    have hO : Own encE 3 59 (w2.alloc (.cells #[.int .i64 (m : Int), .int .i64 32, .int .i64 2] 59)) wc.heap.size (.slice (some ⟨w2.heap.size, 0, none⟩) 1 1) [baseE m] := Own.lit w2 59 wc.heap.size [baseE m] encE_length hz (by simp [maxLen])
    have bb : Below wc.heap.size wc (w2.alloc (.cells #[.int .i64 (m : Int), .int .i64 32, .int .i64 2] 59)) := b2.alloc hz _
    clear b2 hz em
    go_loopw [3, 4] (fun ov iv wr => ∃ k : Nat, k ≤ n ∧ iv = .int .i64 k ∧ Own encE 3 59 wr wc.heap.size ov (baseE m :: (D.take k).map fun c => baseE (512 + c - 48)) ∧ Below wc.heap.size wc wr) (fun _ iv _ => n - (intOf iv).toNat)
    case atStart => exact ⟨0, Nat.zero_le _, rfl, hO, bb⟩
    case round =>
      obtain ⟨k, hk, rfl, hown, hb⟩ := hrel
      clear hO bb
      have hbz := hb.size
      by_cases hlt : k < n
      · have hlt' : (k : Int) < n := by omega
        obtain ⟨x, hx⟩ : ∃ x, D[k]? = some x := ⟨D[k]'(by rw [← HNN.out]; exact hlt), by simp⟩
        obtain ⟨b, o, hA, hbB, c0⟩ := Ints.at (Sl.below HS.out hb) k x hx
        subst hA
        have hxd := HTM.out x (List.mem_of_getElem? hx)
        have HP : Hid ((baseE m :: (D.take (k + 1)).map fun c => baseE (512 + c - 48)) = (baseE m :: (D.take k).map fun c => baseE (512 + c - 48)) ++ [baseE (512 + x - 48)]) := Lib.hid (by rw [List.take_add_one, hx]; simp)
        have hpl : (baseE m :: (D.take k).map fun c => baseE (512 + c - 48)).length ≤ n + 1 := by
          rw [List.length_cons, List.length_map, List.length_take]; omega
        obtain ⟨P, hP⟩ : ∃ P, P = (baseE m :: (D.take k).map fun c => baseE (512 + c - 48)) := ⟨_, rfl⟩
        rw [← hP] at HP hpl hown
        obtain ⟨y, hy⟩ : ∃ y, y = 512 + x - 48 := ⟨_, rfl⟩
        rw [← hy] at HP
        have e1 : IntKind.i64.wrap (512 + (x : Int)) = (512 + (x : Int)) := IntWalk.i64_in _ (by omega)
        have e2 : IntKind.i64.wrap (512 + (x : Int) - 48) = (y : Int) := by rw [IntWalk.i64_in _ (by omega)]; omega
        have ek : IntKind.i64.wrap ((k : Int) + 1) = (k : Int) + 1 := IntWalk.i64_in _ (by omega)
        clear hx hP hy
        go_wp2_with fail
        refine (rbase_lib y _).mono ?_
        rw [show elV (baseE y) = .agg #[.int .i64 (y : Int), .int .i64 32, .int .i64 2] from rfl]
        rintro e w5 ⟨rfl, hb5⟩
        have hO5 := hown.over hb5
        have hb6 : Below wc.heap.size wc w5 := hb.trans (hb5.mono hbz)
        have hbz6 := hb6.size
        clear hb5
        go_wp2_with (at_builtin; go_loud (refine wpList_push _ rfl _ _ 55 rfl wc.heap.size 59 i0 _ 3 24 Tryd.underlying55 hi hz0 hz1 hz2 rfl (by decide) encE_length encE_each _ P rfl (Own.alloc hO5 _) w5.heap.size 1 (baseE y) rfl (cells_new w5 (encE (baseE y)) 59) (by omega) (by omega) (by simp; omega) ?_; intro v7 w7 hown7 hg7; have hb7 : Below wc.heap.size wc w7 := (hb6.alloc hbz6 (.cells #[.int .i64 (y : Int), .int .i64 32, .int .i64 2] 59)).trans (Own.belowG (Own.alloc hO5 (.cells #[.int .i64 (y : Int), .int .i64 32, .int .i64 2] 59)) (by simp; omega) hg7); clear hg7))
        go_roundw
        case rel => exact ⟨k + 1, by omega, by go_num, by rw [HP.out]; exact hown7, hb7⟩
        case measure => simp [intOf]; omega
      · have hkn : k = n := by omega
        have HF : Hid ((baseE m :: (D.take k).map fun c => baseE (512 + c - 48)) = N) := Lib.hid (by rw [HN.out, List.take_of_length_le (by rw [← HNN.out]; omega)])
        clear hlt
        subst hkn
        go_wp2_with fail
        go_ret
        exact ⟨_, rfl, by rw [← HF.out]; exact hown.sl encE_length, hb⟩

set_option maxRecDepth 100000 in
set_option maxHeartbeats 1000000 in
theorem options_lib (o : Opt) (w : World) : Calls Tryd.prog 19 #[optV o] w fun e w' => e = .returned (optV o) ∧ Below w.heap.size w w' := by
  obtain ⟨st, num, ign, up⟩ := o
  show Calls Tryd.prog 19 #[.agg #[.int .i64 st, .bool num, .bool ign, .bool up]] w fun e w' => e = .returned (.agg #[.int .i64 st, .bool num, .bool ign, .bool up]) ∧ Below w.heap.size w w'
  go_enter Tryd.func19, Tryd.ntmps19
  go_wp2_with fail
  refine bodyPost_ret (v := .agg #[.int .i64 st, .bool num, .bool ign, .bool up]) ?_ rfl ⟨rfl, ?_⟩
  · have hres : Tryd.f19.results = #[.cell 2 31] := by kernel_rfl
    simp only [results, hres]
    go_simp
    try rfl
  · first
    | exact ((Below.refl _ _).alloc (Nat.le_refl _) _).alloc (by simp) _
    | exact (((((Below.refl _ _).alloc (Nat.le_refl _) _).alloc (by simp) _).setCell (by simp) _).setCell (by simp) _).setCell (by simp) _
end Go.Proofs.YtknnjnginmkblaaDoor
