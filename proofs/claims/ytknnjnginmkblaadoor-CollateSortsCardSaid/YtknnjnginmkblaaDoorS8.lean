/- Walks: stable sorting; Sort; what the law wants. -/
import Derived.Test.YtknnjnginmkblaaDoorS7
import Derived.Test.YtknnjnginmkblaaDoorR7
import Derived.ArgAppend
namespace Go.Proofs.YtknnjnginmkblaaDoor
section
open Go.RowKit

def StB (g N : Nat) (L : List Dec) (w wr : World) (k : Nat) : Prop := ∃ L', L'.length = N ∧ Same cfD L L' ∧ 20 * k ≤ N ∧ (1 ≤ k → Srt cfD (L'.take 20)) ∧ (2 ≤ k → Srt cfD ((L'.drop 20).take 20)) ∧ ArrD g L' wr ∧ w.grownBy wr (some g)
def StM (g N : Nat) (L : List Dec) (w wr : World) : Prop := ∃ L', L'.length = N ∧ Same cfD L L' ∧ Srt cfD (L'.take 20) ∧ Srt cfD (L'.drop 20) ∧ ArrD g L' wr ∧ w.grownBy wr (some g)
def StE (g N : Nat) (L : List Dec) (w wr : World) : Prop := ∃ L', L'.length = N ∧ Same cfD L L' ∧ Srt cfD L' ∧ ArrD g L' wr ∧ w.grownBy wr (some g)
theorem StM.whole {g N : Nat} {L : List Dec} {w wr : World} (h : StM g N L w wr) (hN : N ≤ 20) : StE g N L w wr := by
  obtain ⟨L', h1, h2, h3, h4, h5⟩ := h
  rw [List.take_of_length_le (by omega)] at h3
  exact ⟨L', h1, h2, h3, h5⟩
theorem StB.next {g N cap k : Nat} {L : List Dec} {w wr : World} (h : StB g N L w wr k) (hk : k ≤ 1) (hb : 20 * (k + 1) ≤ N) (hN : N ≤ 40) :
    Calls Tryd.prog 82 #[.slice (some ⟨g, 0, none⟩) N cap, .int .i64 ((20 * k : Nat) : Int), .int .i64 ((20 * (k + 1) : Nat) : Int), fnD] wr fun e w' => e = .returned (.tuple #[]) ∧ Hid (StB g N L w w' (k + 1)) := by
  obtain ⟨L', h1, h2, h3, h4, h5, h6, h7⟩ := h
  have hLe : L' = L'.take (20 * k) ++ ((L'.drop (20 * k)).take 20 ++ (L'.drop (20 * k)).drop 20) := by rw [List.take_append_drop, List.take_append_drop]
  have l1 : (L'.take (20 * k)).length = 20 * k := by rw [List.length_take]; omega
  have l2 : ((L'.drop (20 * k)).take 20).length = 20 := by rw [List.length_take, List.length_drop]; omega
  have hA : ArrD g (L'.take (20 * k) ++ ((L'.drop (20 * k)).take 20 ++ (L'.drop (20 * k)).drop 20)) wr := by rw [← hLe]; exact h6
  refine (insertion_lib g cap (20 * k) (20 * (k + 1)) N _ _ _ wr hA (by rw [← hLe]; exact h1.symm) l1.symm (by omega) (by omega)).mono ?_
  rintro e w' ⟨he, ⟨Z, z1, z2, z3, z4⟩, z5⟩
  refine ⟨he, Lib.hid ⟨_, ?_, ?_, hb, ?_, ?_, z4, h7.trans z5⟩⟩
  · rw [List.length_append, List.length_append, l1, z3, l2, List.length_drop, List.length_drop]; omega
  · refine h2.trans ?_
    have := (Same.refl (cf := cfD) (L'.take (20 * k))).app (z2.app (Same.refl ((L'.drop (20 * k)).drop 20)))
    rw [← hLe] at this
    exact this
  · intro _
    rcases (show k = 0 ∨ k = 1 by omega) with rfl | rfl
    · rw [Nat.mul_zero, List.take_zero, List.nil_append, List.take_left' (by omega)]
      exact z1
    · rw [List.take_left' (by omega)]
      exact h4 (Nat.le_refl _)
  · intro hk2
    obtain rfl : k = 1 := by omega
    rw [List.drop_left' (by omega), List.take_left' (by omega)]
    exact z1
theorem StB.last {g N cap k : Nat} {L : List Dec} {w wr : World} (h : StB g N L w wr k) (hk : k ≤ 2) (hb : N < 20 * (k + 1)) (hN : N ≤ 40) :
    Calls Tryd.prog 82 #[.slice (some ⟨g, 0, none⟩) N cap, .int .i64 ((20 * k : Nat) : Int), .int .i64 (N : Int), fnD] wr fun e w' => e = .returned (.tuple #[]) ∧ Hid (StM g N L w w') := by
  obtain ⟨L', h1, h2, h3, h4, h5, h6, h7⟩ := h
  have hLe : L' = L'.take (20 * k) ++ (L'.drop (20 * k) ++ []) := by rw [List.append_nil, List.take_append_drop]
  have l1 : (L'.take (20 * k)).length = 20 * k := by rw [List.length_take]; omega
  have hA : ArrD g (L'.take (20 * k) ++ (L'.drop (20 * k) ++ [])) wr := by rw [← hLe]; exact h6
  refine (insertion_lib g cap (20 * k) N N _ _ _ wr hA (by rw [← hLe]; exact h1.symm) l1.symm (by rw [List.length_drop]; omega) (by omega)).mono ?_
  rintro e w' ⟨he, ⟨Z, z1, z2, z3, z4⟩, z5⟩
  rw [List.length_drop] at z3
  refine ⟨he, Lib.hid ⟨_, ?_, ?_, ?_, ?_, z4, h7.trans z5⟩⟩
  · rw [List.append_nil, List.length_append, l1, z3]; omega
  · refine h2.trans ?_
    have := (Same.refl (cf := cfD) (L'.take (20 * k))).app (z2.app (Same.refl []))
    rw [← hLe] at this
    exact this
  · rw [List.append_nil]
    rcases (show k = 0 ∨ k = 1 ∨ k = 2 by omega) with rfl | rfl | rfl
    · rw [Nat.mul_zero, List.take_zero, List.nil_append, List.take_of_length_le (by omega)]
      exact z1
    · rw [List.take_left' (by omega)]
      exact h4 (Nat.le_refl _)
    · have : Z = [] := List.eq_nil_of_length_eq_zero (by omega)
      rw [this, List.append_nil, List.take_take, Nat.min_eq_left (by omega)]
      exact h4 (by omega)
  · rw [List.append_nil]
    rcases (show k = 0 ∨ k = 1 ∨ k = 2 by omega) with rfl | rfl | rfl
    · rw [Nat.mul_zero, List.take_zero, List.nil_append, List.drop_eq_nil_of_le (by omega)]
      exact srt_nil
    · rw [List.drop_left' (by omega)]
      exact z1
    · have hz : Z = [] := List.eq_nil_of_length_eq_zero (by omega)
      rw [hz, List.append_nil, List.take_of_length_le (by omega)]
      have := h5 (Nat.le_refl _)
      rw [List.take_of_length_le (by rw [List.length_drop]; omega)] at this
      exact this
theorem StM.merge {g N cap : Nat} {L : List Dec} {w wr : World} (h : StM g N L w wr) (h20 : 20 < N) (hN : N ≤ 40) (bi : Int) (hbi : bi = (N : Int)) :
    Calls Tryd.prog 83 #[.slice (some ⟨g, 0, none⟩) N cap, .int .i64 0, .int .i64 20, .int .i64 bi, fnD] wr fun e w' => e = .returned (.tuple #[]) ∧ Hid (StE g N L w w') := by
  subst hbi
  obtain ⟨L', h1, h2, h3, h4, h5, h6⟩ := h
  have hLe : L' = [] ++ (L'.take 20 ++ (L'.drop 20 ++ [])) := by rw [List.append_nil, List.nil_append, List.take_append_drop]
  have l1 : (L'.take 20).length = 20 := by rw [List.length_take]; omega
  have l2 : (L'.drop 20).length = N - 20 := by rw [List.length_drop]; omega
  have hA : ArrD g ([] ++ (L'.take 20 ++ (L'.drop 20 ++ []))) wr := by rw [← hLe]; exact h5
  refine (symMerge_lib N g cap 0 20 N N [] (L'.take 20) (L'.drop 20) [] wr (by omega) hA (by rw [← hLe]; exact h1.symm) rfl (by omega) (by omega) (by omega) (by omega) h3 h4 (by omega)).mono ?_
  rintro e w' ⟨he, ⟨Z, z1, z2, z3, z4⟩, z5⟩
  rw [List.take_append_drop] at z2 z3
  exact ⟨he, Lib.hid ⟨Z, by omega, h2.trans z2, z1, by simpa using z4, h6.trans z5⟩⟩

set_option maxRecDepth 100000 in
set_option maxHeartbeats 8000000 in
theorem stable_lib (g cap N : Nat) (L : List Dec) (w : World) (h : ArrD g L w) (hN : N = L.length) (h40 : N ≤ 40) :
    Calls Tryd.prog 65 #[.slice (some ⟨g, 0, none⟩) N cap, .int .i64 (N : Int), fnD] w fun e w' => e = .returned (.tuple #[]) ∧ StE g N L w w' := by
  have H0 : Hid (StB g N L w w 0) := Lib.hid ⟨L, hN.symm, Same.refl _, by omega, fun h => by omega, fun h => by omega, h, grown_refl _ _⟩
  clear h hN
  go_enter Tryd.func65, Tryd.ntmps65
  go_wp2_with fail
  go_loopw [7, 8] (fun av bv wr => ∃ k a b : Nat, k ≤ 2 ∧ a = 20 * k ∧ b = 20 * (k + 1) ∧ av = .int .i64 (a : Int) ∧ bv = .int .i64 (b : Int) ∧ Hid (StB g N L w wr k)) (fun av _ _ => 100 - (intOf av).toNat)
  case atStart => exact ⟨0, 0, 20, by omega, rfl, rfl, rfl, rfl, H0⟩
  case round =>
    obtain ⟨k, a, b, hk, ha, hb, rfl, rfl, HB⟩ := hrel
    clear H0
    by_cases hle : b ≤ N
    · have hle' : (b : Int) ≤ (N : Int) := by omega
      obtain ⟨b2, hb2⟩ : ∃ b2, b2 = 20 * (k + 2) := ⟨_, rfl⟩
      have e1 : IntKind.i64.wrap ((b : Int) + 20) = (b2 : Int) := by rw [IntWalk.i64_in _ (by omega)]; omega
      have CI := Lib.hid (HB.out.next (cap := cap) (by omega) (by omega) h40)
      rw [← ha, ← hb] at CI
      have HK := Lib.hid (And.intro ha (And.intro hb hb2))
      clear HB ha hb hb2
      go_wp2_with fail
      refine CI.out.mono ?_
      rintro e w2 ⟨rfl, HN⟩
      go_wp2_with fail
      have hkk := HK.out
      go_roundw
      case rel => exact ⟨k + 1, b, b2, by omega, by omega, by omega, rfl, by go_num, HN⟩
      case measure => simp [intOf]; omega
    · have hle' : ¬ (b : Int) ≤ (N : Int) := by omega
      have CI := Lib.hid (HB.out.last (cap := cap) hk (by omega) h40)
      rw [← ha] at CI
      have hb20 : 20 ≤ b := by omega
      clear HB ha hb
      go_wp2_with fail
      refine CI.out.mono ?_
      rintro e w2 ⟨rfl, HM⟩
      clear CI
      go_wp2_with fail
      go_loopw [6] (fun sv wr => (sv = .int .i64 20 ∧ Hid (StM g N L w wr)) ∨ (sv = .int .i64 40 ∧ Hid (StE g N L w wr))) (fun sv _ => 100 - (intOf sv).toNat)
      case atStart => exact .inl ⟨rfl, HM⟩
      case round =>
        clear HM
        rcases hrel with ⟨rfl, HM⟩ | ⟨rfl, HE⟩
        · by_cases hN20 : 20 < N
          · have d1 : (20 : Int) < (N : Int) := by omega
            go_wp2_with fail
            go_loopw [7, 8] (fun av bv wr => (av = .int .i64 0 ∧ bv = .int .i64 40 ∧ Hid (StM g N L w wr)) ∨ (Hid (N = 40) ∧ av = .int .i64 40 ∧ bv = .int .i64 80 ∧ Hid (StE g N L w wr))) (fun av _ _ => 100 - (intOf av).toNat)
            case atStart => exact .inl ⟨rfl, rfl, HM⟩
            case round =>
              clear HM
              rcases hrel with ⟨rfl, rfl, HM⟩ | ⟨hN40, rfl, rfl, HE⟩
              · by_cases hN40 : N = 40
                · have CM := Lib.hid (HM.out.merge (cap := cap) hN20 h40 40 (by omega))
                  have d2 : (40 : Int) ≤ (N : Int) := by omega
                  have H40 := Lib.hid hN40
                  clear HM hN40
                  go_wp2_with fail
                  refine CM.out.mono ?_
                  rintro e w3 ⟨rfl, HE⟩
                  go_wp2_with fail
                  go_roundw
                  case rel => exact .inr ⟨H40, rfl, by go_num, HE⟩
                  case measure => simp [intOf]
                · have d2 : ¬ (40 : Int) ≤ (N : Int) := by omega
                  have CM := Lib.hid (HM.out.merge (cap := cap) hN20 h40 N rfl)
                  clear HM
                  go_wp2_with fail
                  refine CM.out.mono ?_
                  rintro e w3 ⟨rfl, HE⟩
                  go_wp2_with fail
                  exact ⟨.inr ⟨rfl, HE⟩, by simp [intOf]⟩
              · have d2 : ¬ (80 : Int) ≤ (N : Int) := by omega
                have d3 : ¬ (60 : Int) < (N : Int) := by have := hN40.out; omega
                go_wp2_with fail
                exact ⟨.inr ⟨rfl, HE⟩, by simp [intOf]⟩
          · have d1 : ¬ (20 : Int) < (N : Int) := by omega
            go_wp2_with fail
            go_end0
            exact ⟨rfl, HM.out.whole (by omega)⟩
        · have d1 : ¬ (40 : Int) < (N : Int) := by omega
          go_wp2_with fail
          go_end0
          exact ⟨rfl, HE.out⟩
end
section
open Go.RowKit

theorem info80 : (Tryd.prog.info? 80).map (fun i => (i.zero, i.size, i.bytes)) = some (some (.agg #[.string ⟨#[]⟩, .string ⟨#[]⟩]), 2, 32) := by kernel_rfl
theorem info9 : (Tryd.prog.info? 9).map (fun i => (i.zero, i.size, i.bytes)) = some (some (.string ⟨#[]⟩), 1, 16) := by kernel_rfl
theorem encD_length (x : Dec) : (encD x).length = 2 := rfl
theorem encD_each (x : Dec) : ∀ u ∈ encD x, u.oneCell' = true := by
  intro u hu
  simp only [encD, List.mem_cons, List.not_mem_nil, or_false] at hu
  rcases hu with rfl | rfl <;> rfl
theorem encS_each (x : ByteArray) : ∀ u ∈ encS x, u.oneCell' = true := by
  intro u hu
  simp only [encS, List.mem_cons, List.not_mem_nil, or_false] at hu
  subst hu
  rfl
def keyB (o : Opt) (s : ByteArray) : List Nat := keyL o.strength.toNat (bytesN s) (elS o s)
theorem Own.arrD {w : World} {base : Nat} {v : Value} {D : List Dec} (h : Own encD 2 80 w base v D) (h0 : D ≠ []) : ∃ g cap, v = .slice (some ⟨g, 0, none⟩) D.length cap ∧ base ≤ g ∧ ArrD g D w := by
  have h1 : w.ownsRow base 80 2 v D.length (D.flatMap encD) := h
  rcases h1.2 with ⟨_, hn⟩ | ⟨g, cap, cur, rfl, hb, hg, _, _, _, ht⟩
  · exact absurd (List.eq_nil_of_length_eq_zero hn) h0
  · exact ⟨g, cap, rfl, hb, cur, hg, ht⟩

set_option maxRecDepth 100000 in
set_option maxHeartbeats 1000000 in
theorem sortStable_lib (g cap N : Nat) (L : List Dec) (w : World) (h : ArrD g L w) (hN : N = L.length) (h40 : N ≤ 40) :
    Calls Tryd.prog 49 #[.slice (some ⟨g, 0, none⟩) N cap, fnD] w fun e w' => e = .returned (.tuple #[]) ∧ Hid (StE g N L w w') := by
  have CS := Lib.hid (stable_lib g cap N L w h hN h40)
  clear h hN
  go_enter Tryd.func49, Tryd.ntmps49
  go_wp2_with fail
  refine CS.out.mono ?_
  rintro e w2 ⟨rfl, HE⟩
  go_wp2_with fail
  go_end0
  exact ⟨rfl, HE⟩
set_option maxRecDepth 100000 in
set_option maxHeartbeats 1000000 in
theorem insertion_nil (w : World) : Calls Tryd.prog 82 #[.slice none 0 0, .int .i64 0, .int .i64 0, fnD] w fun e w' => e = .returned (.tuple #[]) ∧ w = w' := by
  go_enter Tryd.func82, Tryd.ntmps82
  go_wp2_with fail
  go_loopw [8] (fun iv wr => iv = .int .i64 1 ∧ w = wr) (fun _ _ => 0)
  case atStart => exact ⟨by go_num, rfl⟩
  case round =>
    obtain ⟨rfl, rfl⟩ := hrel
    go_wp2_with fail
    go_end0
    exact ⟨rfl, rfl⟩
set_option maxRecDepth 100000 in
set_option maxHeartbeats 1000000 in
theorem stable_nil (w : World) : Calls Tryd.prog 65 #[.slice none 0 0, .int .i64 0, fnD] w fun e w' => e = .returned (.tuple #[]) ∧ w = w' := by
  go_enter Tryd.func65, Tryd.ntmps65
  go_wp2_with fail
  go_loopw [7, 8] (fun av bv wr => av = .int .i64 0 ∧ bv = .int .i64 20 ∧ w = wr) (fun _ _ _ => 0)
  case atStart => exact ⟨rfl, rfl, rfl⟩
  case round =>
    obtain ⟨rfl, rfl, rfl⟩ := hrel
    go_wp2_with fail
    refine (insertion_nil _).mono ?_
    rintro e w2 ⟨rfl, rfl⟩
    go_wp2_with fail
    go_loopw [6] (fun sv wr => sv = .int .i64 20 ∧ w = wr) (fun _ _ => 0)
    case atStart => exact ⟨rfl, rfl⟩
    case round =>
      obtain ⟨rfl, rfl⟩ := hrel
      go_wp2_with fail
      go_end0
      exact ⟨rfl, rfl⟩
set_option maxRecDepth 100000 in
set_option maxHeartbeats 1000000 in
theorem sortStable_nil (w : World) : Calls Tryd.prog 49 #[.slice none 0 0, fnD] w fun e w' => e = .returned (.tuple #[]) ∧ w = w' := by
  go_enter Tryd.func49, Tryd.ntmps49
  go_wp2_with fail
  refine (stable_nil _).mono ?_
  rintro e w2 ⟨rfl, rfl⟩
  go_wp2_with fail
  go_end0
  exact ⟨rfl, rfl⟩

/-- The decorated strings so far. -/
def DecI (o : Opt) (l : List ByteArray) (D : List Dec) (k : Nat) : Prop := D.map Prod.snd = l.take k ∧ ∀ d ∈ D, bytesN d.1 = keyB o d.2
/-- What Sort answers. -/
def SrtE (o : Opt) (l : List ByteArray) (w : World) (E : Int) (e : Ending) (w' : World) : Prop :=
  ∃ v, e = .returned (.tuple #[v, .int .i64 E]) ∧ (E = 0 → ∃ D Z : List Dec, D.map Prod.snd = l ∧ (∀ d ∈ D, bytesN d.1 = keyB o d.2) ∧ Srt cfD Z ∧ Same cfD D Z ∧ Z.length = l.length ∧ Sl encS 1 w' w'.heap.size v (Z.map Prod.snd)) ∧ (E ≠ 0 → v = .slice none 0 0) ∧ Below w.heap.size w w'

set_option maxRecDepth 100000 in
set_option maxHeartbeats 8000000 in
theorem sort_lib (o : Opt) (v : Value) (l : List ByteArray) (w : World) (hv : Sl encS 1 w w.heap.size v l) (h40 : l.length ≤ 40) :
    Calls Tryd.prog 33 #[v, optV o] w (SrtE o l w (errC o l)) := by
  have CK : Hid (∀ (u : Value) (w : World), Sl encS 1 w w.heap.size u l → Calls Tryd.prog 34 #[optV o, u] w fun e w' => e = .returned (.int .i64 (errC o l)) ∧ Below w.heap.size w w') := Lib.hid (fun u w h => checkS_lib o u l w h)
  obtain ⟨E, hE⟩ : ∃ E, E = errC o l := ⟨_, rfl⟩
  rw [← hE] at CK ⊢
  obtain ⟨i0, hi, hz0, hz1, hz2⟩ := info_parts info80
  obtain ⟨i1, hi9, hy0, hy1, hy2⟩ := info_parts info9
  obtain ⟨A, cap, rfl, hlc, hcm, _⟩ := id hv
  unfold maxLen at hcm
  obtain ⟨n, hn⟩ : ∃ n, n = l.length := ⟨_, rfl⟩
  have HV := Lib.hid hv
  have HN := Lib.hid hn
  rw [← hn] at HV hlc h40 ⊢
  by_cases h0 : E = 0
  · obtain ⟨hst, hok⟩ := errC_ok (hE.symm.trans h0)
    have CKEY : Hid (∀ s ∈ l, ∀ w : World, Calls Tryd.prog 35 #[.string s, optV o] w fun e w' => ∃ t : ByteArray, e = .returned (.string t) ∧ bytesN t = keyB o s ∧ Below w.heap.size w w') := Lib.hid (fun s hs w => key_lib s o w hst (hok s hs).1 (hok s hs).2)
    clear hv hn hE hok hst
    subst h0
    obtain ⟨K, hK⟩ : ∃ K, K = keyB o := ⟨_, rfl⟩
    have HDI : Hid (∀ (D : List Dec) (k : Nat), DecI o l D k ↔ (D.map Prod.snd = l.take k ∧ ∀ d ∈ D, bytesN d.1 = K d.2)) := Lib.hid (fun D k => by rw [hK]; exact Iff.rfl)
    rw [← hK] at CKEY
    obtain ⟨st, num, ign, up⟩ := o
    change Hid (∀ (u : Value) (w : World), Sl encS 1 w w.heap.size u l → Calls Tryd.prog 34 #[.agg #[.int .i64 st, .bool num, .bool ign, .bool up], u] w fun e w' => e = .returned (.int .i64 0) ∧ Below w.heap.size w w') at CK
    change Hid (∀ s ∈ l, ∀ w : World, Calls Tryd.prog 35 #[.string s, .agg #[.int .i64 st, .bool num, .bool ign, .bool up]] w fun e w' => ∃ t : ByteArray, e = .returned (.string t) ∧ bytesN t = K s ∧ Below w.heap.size w w') at CKEY
    show Calls Tryd.prog 33 #[.slice A n cap, .agg #[.int .i64 st, .bool num, .bool ign, .bool up]] w _
    go_enter Tryd.func33, Tryd.ntmps33
    go_upto_region 1 with fail
    have B0 : BoxG w.heap.size st num ign up (w.alloc (.cells #[.int .i64 st, .bool num, .bool ign, .bool up] 23)) := BoxG.new w st num ign up
    have b0 : Below w.heap.size w (w.alloc (.cells #[.int .i64 st, .bool num, .bool ign, .bool up] 23)) := (Below.refl w.heap.size w).alloc (Nat.le_refl _) _
    obtain ⟨w0, hw0⟩ : ∃ w0, w0 = w.alloc (.cells #[.int .i64 st, .bool num, .bool ign, .bool up] 23) := ⟨_, rfl⟩
    rw [← hw0] at B0 b0 ⊢
    clear hw0
    obtain ⟨c0, c1, c2, c3⟩ := id B0
    have CK2 := Lib.hid (CK.out _ _ (HV.out.over b0))
    go_wp2_with fail
    refine CK2.out.mono ?_
    rintro e w1 ⟨rfl, b1⟩
    have BG := B0.over b1
    have bb1 : Below w.heap.size w w1 := b0.trans (b1.mono b0.size)
    have hw1 := bb1.size
    clear b0 b1 B0 c0 c1 c2 c3 CK CK2
    go_wp2_with fail
    go_loopw [7, 21] (fun pv iv wr => ∃ (k : Nat) (D : List Dec), k ≤ n ∧ iv = .int .i64 (k : Int) ∧ D.length = k ∧ (k = 0 → pv = .slice none 0 0) ∧ Hid (DecI ⟨st, num, ign, up⟩ l D k) ∧ Own encD 2 80 wr w1.heap.size pv D ∧ Below w1.heap.size w1 wr) (fun _ iv _ => n - (intOf iv).toNat)
    case atStart => exact ⟨0, [], Nat.zero_le _, rfl, rfl, fun _ => rfl, Lib.hid ⟨rfl, fun d hd => by cases hd⟩, Own.nil _ _, Below.refl _ _⟩
    case round =>
      obtain ⟨k, D, hk, rfl, hDk, hnil, HD, hown, hb⟩ := hrel
      have hbz := hb.size
      have bw := bb1.trans (hb.mono hw1)
      by_cases hlt : k < n
      · have hlt' : (k : Int) < (n : Int) := by omega
        obtain ⟨s, hs⟩ : ∃ s, l[k]? = some s := ⟨l[k]'(by rw [← HN.out]; exact hlt), by simp⟩
        obtain ⟨b, of, hA, hbB, cs⟩ := Strs.at (HV.out.over bw) k s hs
        subst hA
        obtain ⟨c0, c1, c2, c3⟩ := BG.over hb
        have CS := Lib.hid (CKEY.out s (List.mem_of_getElem? hs) wr)
        have HNX : Hid (∀ t : ByteArray, bytesN t = K s → DecI ⟨st, num, ign, up⟩ l (D ++ [(t, s)]) (k + 1)) := Lib.hid (fun t ht => by
          obtain ⟨d1, d2⟩ := (HDI.out D k).1 HD.out
          refine (HDI.out _ _).2 ⟨by rw [List.map_append, d1, List.take_add_one, hs]; rfl, fun d hd => ?_⟩
          rcases List.mem_append.1 hd with hd | hd
          · exact d2 d hd
          · rw [List.mem_singleton.1 hd]; exact ht)
        clear hs
        go_wp2_with fail
        refine CS.out.mono ?_
        rintro e w2 ⟨t, rfl, ht, b2⟩
        have HN2 := Lib.hid (HNX.out t ht)
        have hown2 := (hown.over b2).alloc (.cells #[.string t, .string s] 80)
        have b2' := (hb.trans (b2.mono hbz)).alloc (by have := b2.size; omega) (.cells #[.string t, .string s] 80)
        have hbase2 : w1.heap.size ≤ (w2.alloc (.cells #[.string t, .string s] 80)).heap.size := b2'.size
        have hcell : ∀ j u, (encD (t, s))[j]? = some u → (w2.alloc (.cells #[.string t, .string s] 80)).cell? ⟨w2.heap.size, j, none⟩ = some u := cells_new w2 [.string t, .string s] 80
        clear CS hnil HNX ht c0 c1 c2 c3 cs hown
        go_wp2_with (at_builtin; refine wpList_push _ rfl _ _ 78 rfl w1.heap.size 80 i0 _ 2 32 Tryd.underlying78 hi hz0 hz1 hz2 rfl (by decide) encD_length encD_each _ D rfl hown2 w2.heap.size 1 (t, s) rfl hcell (by omega) (by omega) hbase2 ?_; intro v' w4 hown' hg)
        have hb4 := b2'.trans (hown2.belowG hbase2 hg)
        clear hg hown2 b2' hcell
        exact ⟨⟨k + 1, D ++ [(t, s)], by omega, by go_num, by rw [List.length_append, hDk]; rfl, by omega, HN2, hown', hb4⟩, by simp [intOf]; omega⟩
      · obtain rfl : k = n := by omega
        have hlt' : ¬ (k : Int) < (k : Int) := by omega
        have HDF : Hid (D.map Prod.snd = l ∧ ∀ d ∈ D, bytesN d.1 = K d.2) := Lib.hid (by
          obtain ⟨d1, d2⟩ := (HDI.out D k).1 HD.out
          rw [List.take_of_length_le (by rw [← HN.out]; exact Nat.le_refl _)] at d1
          exact ⟨d1, d2⟩)
        have HKK := Lib.hid hK
        clear HD CKEY BG HDI hK
        by_cases hz : k = 0
        · obtain rfl := hnil hz
          subst hz
          have hD0 : D = [] := List.eq_nil_of_length_eq_zero hDk
          clear hnil
          go_wp2_with fail
          refine (sortStable_nil _).mono ?_
          rintro e w5 ⟨rfl, rfl⟩
          go_wp2_with fail
          go_loopw [10, 38] (fun ov iv wx => ov = .slice none 0 0 ∧ iv = .int .i64 0 ∧ wr = wx) (fun _ _ _ => 0)
          case atStart => exact ⟨rfl, rfl, rfl⟩
          case round =>
            obtain ⟨rfl, rfl, rfl⟩ := hrel
            go_wp2_with fail
            go_ret2
            subst hD0
            refine ⟨_, rfl, fun _ => ⟨[], [], ?_, ?_, srt_nil, Same.refl _, ?_, Sl.nil _ _⟩, fun h => absurd rfl h, bw⟩
            · have := HDF.out.1; simpa using this
            · intro d hd; cases hd
            · rw [← HN.out]; rfl
        · obtain ⟨g, cp, rfl, hgb, hA⟩ := hown.arrD (fun h => hz (by rw [← hDk, h]; rfl))
          have CS := Lib.hid (sortStable_lib g cp k D wr hA hDk.symm h40)
          rw [hDk]
          clear hA hown hnil
          go_wp2_with fail
          refine CS.out.mono ?_
          rintro e w5 ⟨rfl, HS⟩
          obtain ⟨Z, z1, z2, z3, z4, z5⟩ := HS.out
          have b5 : Below w.heap.size w w5 := bw.grown z5 bw.size (fun k' hk' => by injection hk' with hk'; omega)
          have HZ : Hid (Same cfD D Z ∧ Srt cfD Z ∧ ArrD g Z w5) := Lib.hid ⟨z2, z3, z4⟩
          have hw5 := b5.size
          clear HS CS z2 z3 z4 z5 bw hb hbz
          go_wp2_with fail
          go_loopw [10, 38] (fun ov iv wr => ∃ j : Nat, j ≤ k ∧ iv = .int .i64 (j : Int) ∧ Own encS 1 9 wr w5.heap.size ov ((Z.map Prod.snd).take j) ∧ Below w5.heap.size w5 wr) (fun _ iv _ => k - (intOf iv).toNat)
          case atStart => exact ⟨0, Nat.zero_le _, rfl, Own.nil _ _, Below.refl _ _⟩
          case round =>
            obtain ⟨j, hj, rfl, hown, hb⟩ := hrel
            have hbz := hb.size
            by_cases hlt2 : j < k
            · have hlt2' : (j : Int) < (k : Int) := by omega
              obtain ⟨x, hx⟩ : ∃ x, Z[j]? = some x := ⟨Z[j]'(by omega), by simp⟩
              obtain ⟨c1, c2, _, _⟩ := (HZ.out.2.2.over hb).cells hx
              have HT : Hid ((Z.map Prod.snd).take (j + 1) = (Z.map Prod.snd).take j ++ [x.2]) := Lib.hid (by rw [List.take_add_one, List.getElem?_map, hx]; rfl)
              have hlen : ((Z.map Prod.snd).take j).length = j := by rw [List.length_take, List.length_map]; omega
              obtain ⟨x1, x2⟩ := x
              simp only at c1 c2 HT
              have hown2 := (hown.alloc (.cells #[.string x1, .string x2] 80)).alloc (.cells #[.string x2] 9)
              have hb2 := (hb.alloc hbz (.cells #[.string x1, .string x2] 80)).alloc (by simp; omega) (.cells #[.string x2] 9)
              have hbase2 := hb2.size
              have hcell : ∀ j u, (encS x2)[j]? = some u → ((wr.alloc (.cells #[.string x1, .string x2] 80)).alloc (.cells #[.string x2] 9)).cell? ⟨wr.heap.size + 1, j, none⟩ = some u := by
                intro j u hu
                have := cells_new (wr.alloc (.cells #[.string x1, .string x2] 80)) [.string x2] 9 j u hu
                rw [show (wr.alloc (.cells #[.string x1, .string x2] 80)).heap.size = wr.heap.size + 1 by simp] at this
                exact this
              clear hx hown
              go_wp2_with (at_builtin; refine wpList_push _ rfl _ _ 47 rfl w5.heap.size 9 i1 _ 1 16 Tryd.underlying47 hi9 hy0 hy1 hy2 rfl (by decide) (fun _ => rfl) encS_each _ _ rfl hown2 (wr.heap.size + 1) 1 x2 rfl hcell (by omega) (by omega) hbase2 ?_; intro v' w6 hown' hg)
              have hb6 := hb2.trans (hown2.belowG hbase2 hg)
              clear hg hown2 hb2 hcell
              exact ⟨⟨j + 1, by omega, by go_num, by rw [HT.out]; exact hown', hb6⟩, by simp [intOf]; omega⟩
            · obtain rfl : j = k := by omega
              have hlt2' : ¬ (j : Int) < (j : Int) := by omega
              go_wp2_with fail
              go_ret2
              rw [List.take_of_length_le (by rw [List.length_map]; omega)] at hown
              refine ⟨_, rfl, fun _ => ⟨D, Z, HDF.out.1, ?_, HZ.out.2.1, HZ.out.1, by rw [z1]; exact HN.out, hown.sl (fun _ => rfl)⟩, fun h => absurd rfl h, b5.trans (hb.mono hw5)⟩
              rw [← HKK.out]
              exact HDF.out.2
  · clear hE hv hn
    have d0 : (E != 0) = true := by simpa using h0
    obtain ⟨st, num, ign, up⟩ := o
    change Hid (∀ (u : Value) (w : World), Sl encS 1 w w.heap.size u l → Calls Tryd.prog 34 #[.agg #[.int .i64 st, .bool num, .bool ign, .bool up], u] w fun e w' => e = .returned (.int .i64 E) ∧ Below w.heap.size w w') at CK
    show Calls Tryd.prog 33 #[.slice A n cap, .agg #[.int .i64 st, .bool num, .bool ign, .bool up]] w _
    have b0 : Below w.heap.size w (w.alloc (.cells #[.int .i64 st, .bool num, .bool ign, .bool up] 23)) := (Below.refl w.heap.size w).alloc (Nat.le_refl _) _
    have CK2 := Lib.hid (CK.out _ _ (HV.out.over b0))
    go_enter Tryd.func33, Tryd.ntmps33
    go_wp2_with fail
    refine CK2.out.mono ?_
    rintro e w1 ⟨rfl, b1⟩
    have bb1 : Below w.heap.size w w1 := b0.trans (b1.mono b0.size)
    have H0 := Lib.hid h0
    clear b0 b1 CK CK2 h0
    go_wp2_with fail
    go_ret2
    exact ⟨_, rfl, fun h => absurd h H0.out, fun _ => rfl, bb1⟩
end
section
open Go.RowKit

theorem ins_at {α : Type} [Inhabited α] {cf : α → α → Int} {W : List α} {a : Nat} {y : α} (ha : a ≤ W.length) (h1 : ∀ x ∈ W.drop a, 0 < cf x y) (h2 : a = 0 ∨ ¬ 0 < cf W[a - 1]! y) : insS cf y W = W.take a ++ y :: W.drop a := by
  have hr : W.reverse = (W.drop a).reverse ++ (W.take a).reverse := by rw [← List.reverse_append, List.take_append_drop]
  have ht : (W.take a).reverse.takeWhile (fun x => decide (0 < cf x y)) = [] ∧ (W.take a).reverse.dropWhile (fun x => decide (0 < cf x y)) = (W.take a).reverse := by
    rcases h2 with rfl | h2
    · simp
    · by_cases h0 : a = 0
      · subst h0; simp
      · obtain ⟨k, rfl⟩ : ∃ k, a = k + 1 := ⟨a - 1, by omega⟩
        have e : W.take (k + 1) = W.take k ++ [W[k]!] := by rw [List.take_add_one, List.getElem?_eq_getElem (by omega), getElem!_pos W k (by omega)]; rfl
        rw [e, List.reverse_append]
        simp only [List.reverse_cons, List.reverse_nil, List.nil_append, List.singleton_append]
        rw [show k + 1 - 1 = k by omega] at h2
        rw [List.takeWhile_cons_of_neg (by simpa using h2), List.dropWhile_cons_of_neg (by simpa using h2)]
        exact ⟨rfl, rfl⟩
  have hall : ∀ x ∈ (W.drop a).reverse, decide (0 < cf x y) = true := fun x hx => by simpa using h1 x (List.mem_reverse.1 hx)
  unfold insS
  rw [hr, List.takeWhile_append_of_pos hall, List.dropWhile_append_of_pos hall, ht.1, ht.2, List.append_nil, List.reverse_reverse, List.reverse_reverse]
def cfK (K : ByteArray → List Nat) (x y : ByteArray) : Int := ordL (K x) (K y)
theorem cfK_ordr (K : ByteArray → List Nat) : Ordr (cfK K) where
  anti x y := ordL_anti _ _
  trans x y z h1 h2 := by
    unfold cfK at *
    rcases ordL_range (K x) (K y) with a | a | a
    · rcases ordL_range (K y) (K z) with b | b | b
      · have := ordL_trans _ _ _ (by omega : ordL (K x) (K y) < 0) (by omega : ordL (K y) (K z) < 0); omega
      · rw [← ordL_eq _ _ b]; omega
      · omega
    · rw [ordL_eq _ _ a]; exact h2
    · omega
theorem sorted_same {K : ByteArray → List Nat} {I : List ByteArray} {D Z : List Dec} (h1 : D.map Prod.snd = I) (h2 : ∀ d ∈ D, bytesN d.1 = K d.2) (h3 : Srt cfD Z) (h4 : Same cfD D Z) :
    Z.map Prod.snd = I.foldl (fun acc y => insS (cfK K) y acc) [] := by
  have hZ : ∀ d ∈ Z, bytesN d.1 = K d.2 := fun d hd => h2 d (h4.symm.mem cfD_ordr hd)
  have hs : Srt (cfK K) (Z.map Prod.snd) := by
    unfold Srt
    rw [List.pairwise_map]
    refine List.Pairwise.imp_of_mem (fun {x y} hx hy hxy => ?_) h3
    unfold cfK
    rw [← hZ x hx, ← hZ y hy]
    exact hxy
  have hsame : Same (cfK K) I (Z.map Prod.snd) := by
    intro c
    rw [← h1]
    have hf : ∀ (T : List Dec), (∀ d ∈ T, bytesN d.1 = K d.2) → (T.map Prod.snd).filter (eqv (cfK K) c) = (T.filter (fun d => decide (ordL (K c) (bytesN d.1) = 0))).map Prod.snd := by
      intro T hT
      rw [List.filter_map]
      congr 1
      refine List.filter_congr (fun d hd => ?_)
      show decide (cfK K c d.2 = 0) = decide (ordL (K c) (bytesN d.1) = 0)
      rw [hT d hd]
      rfl
    rw [hf D h2, hf Z hZ]
    congr 1
    by_cases hc : ∃ d ∈ D, bytesN d.1 = K c
    · obtain ⟨d, hd, e⟩ := hc
      have := h4 d
      rw [← e]
      exact this
    · have hn : ∀ (T : List Dec), (∀ d ∈ T, d ∈ D) → T.filter (fun d => decide (ordL (K c) (bytesN d.1) = 0)) = [] := by
        intro T hT
        rw [List.filter_eq_nil_iff]
        intro d hd he
        simp only [decide_eq_true_eq] at he
        exact hc ⟨d, hT d hd, (ordL_eq _ _ he).symm⟩
      rw [hn D (fun _ h => h), hn Z (fun d hd => h4.symm.mem cfD_ordr hd)]
  have hi := ins_all (cfK_ordr K) I [] srt_nil
  exact srt_unique (cfK_ordr K) _ _ hs hi.1 (hsame.symm.trans (by have := hi.2; simpa using this))
theorem ins_len {cf : ByteArray → ByteArray → Int} (y : ByteArray) (W : List ByteArray) : (insS cf y W).length = W.length + 1 := by
  unfold insS
  have : ((W.reverse.dropWhile (fun x => decide (0 < cf x y))).reverse ++ (W.reverse.takeWhile (fun x => decide (0 < cf x y))).reverse).length = W.length := by
    rw [← List.reverse_append, List.takeWhile_append_dropWhile, List.reverse_reverse]
  simp only [List.length_append, List.length_cons] at this ⊢
  omega

theorem Own.lit1 {α : Type} {enc : α → List Value} {sz : Nat} {E : TypeId} (he : ∀ x, (enc x).length = sz) (w : World) (base : Nat) (hb : base ≤ w.heap.size) (x : α) : Own enc sz E (w.alloc (.cells (enc x).toArray E)) base (.slice (some ⟨w.heap.size, 0, none⟩) 1 1) [x] := by
  refine ⟨?_, .inr ⟨w.heap.size, 1, (enc x).toArray, rfl, hb, heap_alloc_new w _, Nat.le_refl _, by simp [maxLen], ?_, ?_⟩⟩
  · simp [he]
  · simp [he]
  · simp [he]
    exact List.take_of_length_le (by rw [he]; exact Nat.le_refl _)
/-- What stands behind a place. -/
theorem Own.drop {α : Type} {enc : α → List Value} {sz : Nat} {E : TypeId} {w : World} {base : Nat} {g n cap : Nat} {l : List α} (h : Own enc sz E w base (.slice (some ⟨g, 0, none⟩) n cap) l) (he : ∀ x, (enc x).length = sz) (a : Nat) (ha : a ≤ l.length) :
    Sl enc sz w w.heap.size (.slice (some ⟨g, a * sz, none⟩) (n - a) (cap - a)) (l.drop a) := by
  obtain ⟨A, c, hv, h1, h2, h3⟩ := h.sl he
  injection hv with e1 e2 e3
  subst e1 e2 e3
  refine ⟨_, _, by rw [List.length_drop], by rw [List.length_drop]; omega, by omega, fun hn => ?_⟩
  rw [List.length_drop] at hn
  obtain ⟨b, o, hA, hb, hc⟩ := h3 (by omega)
  injection hA with hA
  injection hA with q1 q2 _
  subst q1 q2
  refine ⟨_, _, rfl, hb, fun i x hx j u hu => ?_⟩
  rw [List.getElem?_drop] at hx
  have := hc (a + i) x hx j u hu
  rw [← this]
  congr 2
  rw [Nat.add_mul]
  omega
/-- 'append(l[:k:k], m...)' as a step of a region that draws. -/
theorem step_grows {α : Type} {enc : α → List Value} {P : Program} {w : World} {ops : Array Oper} {o : Oper} {a : Act} {K : Act → World → Prop} {Q : Exit → Act → World → Prop} {E0 : Prop}
    (hgd : o.guard = none) (s x : Operand) (t : TypeId)
    (ho : o.op = .call { callee := .builtin .append, args := #[s, x], argTypes := #[t, t] })
    (E : TypeId) (i : TypeInfo) (z : Value) (sz bytes : Nat) (ht : P.underlying t = some (.slice E)) (hi : P.info? E = some i) (hz : i.zero = some z)
    (hsize : i.size = sz) (hby : i.bytes = bytes) (hzs : z.cells.size = sz) (hsz : 0 < sz) (he : ∀ x, (enc x).length = sz)
    (g : Nat) (k : Nat) (l : List α) (hs : a.eval s = .slice (some ⟨g, 0, none⟩) k k) (hk : k = l.length) (holds : ∀ j u, (l.flatMap enc)[j]? = some u → w.cell? ⟨g, j, none⟩ = some u)
    (base : Nat) (vx : Value) (m : List α) (hx : a.eval x = vx) (hown : Own enc sz E w base vx m) (hm0 : 0 < m.length)
    (hbytes : (l.length + m.length) * bytes ≤ 140737488355328) (hlen : l.length + m.length ≤ 140737488355328)
    (h : ∀ v' w', Own enc sz E w' w.heap.size v' (l ++ m) → w.grownBy w' none → K (a.put o.dst v') w') : if Region.wanted o (yielded ops a.tmps) = true then Oper.wp P o a w K Q else E0 := by
  have hw : Region.wanted o (yielded ops a.tmps) = true := by simp [Region.wanted, hgd]
  rw [if_pos hw]
  subst hk
  have hown' : w.ownsRow base E sz vx m.length (m.flatMap enc) := hown
  rcases hown'.2 with ⟨_, h0⟩ | ⟨g2, cap, cur, rfl, hb2, hg2, _⟩
  · omega
  · obtain ⟨v', w', hr, k1, k2⟩ := run_append_arg_grows (P := P) w t o.type E i z sz bytes ht hi hz hsize hby hzs hsz ⟨g, 0, none⟩ l.length l.length (l.flatMap enc) (flatMap_length he l) (fun j u hu => by rw [addr_add, Nat.zero_add]; exact holds j u hu) ⟨g2, 0, none⟩ m.length cap (m.flatMap enc) (flatMap_length he m) (hown'.cells (g := g2) rfl) (by omega) (by simp only [maxLen]; omega) hbytes
    unfold Oper.wp execOp
    simp only [ho, resolve, invoke, builtin, Sem.run_bind, Sem.run_pure, Result.andThen_ok, List.map_toArray, List.map_cons, List.map_nil, hs, hx, hr]
    refine h v' w' ?_ k2
    unfold Own
    rw [List.length_append, List.flatMap_append]
    exact k1
end
end Go.Proofs.YtknnjnginmkblaaDoor
