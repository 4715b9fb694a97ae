/- Walks: numbers and entries of a directory. -/
import Derived.Test.YtdnaifkcogadkaaQ1
namespace Go.Proofs.Ytdnaifkcogadkaa
open Go.RowKit

def encE (x : Ent × Nat) : List Value := [.string x.1.name, .int .i64 x.2, .int .i64 x.1.size, .int .u32 x.1.sum]
theorem encE_length (x : Ent × Nat) : (encE x).length = 4 := rfl
theorem encE_each (x : Ent × Nat) : ∀ u ∈ encE x, u.oneCell' = true := fun u hu => by
  simp only [encE, List.mem_cons, List.not_mem_nil, or_false] at hu
  rcases hu with rfl | rfl | rfl | rfl <;> rfl
abbrev OwnE := Own encE 4 43
abbrev Ents := Sl encE 4
theorem info43 : (Try.prog.info? 43).map (fun i => (i.zero, i.size, i.bytes)) = some (some (.agg #[.string ⟨#[]⟩, .int .i64 0, .int .i64 0, .int .u32 0]), 4, 40) := by kernel_rfl

set_option maxRecDepth 100000 in
set_option maxHeartbeats 1000000 in
theorem number_get (s : ByteArray) (k : Nat) (w : World) (hs : s.size ≤ 1048576000) (h3 : k + 3 < s.size) :
    Calls Try.prog 41 #[.string s, .int .i64 k] w fun e w' => e = .returned (.int .u32 (get4 (bytesN s) k)) ∧ ∃ n, w' = w.drewN n := by
  rw [get4_bytes s k h3]
  exact number_any s k w hs (by omega) (by omega) (by omega) h3
set_option maxRecDepth 100000 in
set_option maxHeartbeats 1000000 in
theorem get_any (s : ByteArray) (w : World) (hs : s.size ≤ 1048576000) (h3 : 3 < s.size) :
    Calls Try.prog 43 #[.string s] w fun e w' => e = .returned (.int .u32 (get4 (bytesN s) 0)) ∧ ∃ n, w' = w.drewN n := by
  rw [get4_bytes s 0 h3]
  simp only [Nat.zero_add]
  have g0 : (0 : Int) < s.size := by omega
  have g1 : (1 : Int) < s.size := by omega
  have g2 : (2 : Int) < s.size := by omega
  have g3 : (3 : Int) < s.size := by omega
  obtain ⟨b0, hb0⟩ : ∃ b, s[0].toNat = b := ⟨_, rfl⟩
  obtain ⟨b1, hb1⟩ : ∃ b, s[1].toNat = b := ⟨_, rfl⟩
  obtain ⟨b2, hb2⟩ : ∃ b, s[2].toNat = b := ⟨_, rfl⟩
  obtain ⟨b3, hb3⟩ : ∃ b, s[3].toNat = b := ⟨_, rfl⟩
  have l0 : b0 < 256 := by rw [← hb0]; exact s[0].toNat_lt
  have l1 : b1 < 256 := by rw [← hb1]; exact s[1].toNat_lt
  have l2 : b2 < 256 := by rw [← hb2]; exact s[2].toNat_lt
  have l3 : b3 < 256 := by rw [← hb3]; exact s[3].toNat_lt
  obtain ⟨w0, w1, w2, w3, s0, s1, s2⟩ := four l0 l1 l2 l3
  have HO := Lib.hid (four_or l0 l1 l2 l3)
  rw [hb0, hb1, hb2, hb3]
  obtain ⟨c0, hc0⟩ : ∃ c, c = b0 * 16777216 := ⟨_, rfl⟩
  obtain ⟨c1, hc1⟩ : ∃ c, c = b1 * 65536 := ⟨_, rfl⟩
  obtain ⟨c2, hc2⟩ : ∃ c, c = b2 * 256 := ⟨_, rfl⟩
  rw [← hc0] at s0 HO
  rw [← hc1] at s1 HO
  rw [← hc2] at s2 HO
  clear hc0 hc1 hc2
  go_enter Try.func43, Try.ntmps43
  go_wp2_with fail
  go_quiet (fail)
  go_wp2_with fail
  go_ret
  exact ⟨by rw [← HO.out]; rfl, _, rfl⟩

/-- A slice of one element that was just made. -/
theorem Sl.one {α : Type} {enc : α → List Value} {sz : Nat} (W : World) (y : α) (E : TypeId) (n : Nat) (h : n = W.heap.size) (B : Nat) (hB : n < B) : Sl enc sz (W.alloc (.cells (enc y).toArray E)) B (.slice (some ⟨n, 0, none⟩) 1 1) [y] := by
  refine ⟨_, _, rfl, Nat.le_refl _, by simp [maxLen], fun _ => ⟨n, 0, rfl, hB, fun i x hx j u hu => ?_⟩⟩
  cases i with
  | zero =>
    simp only [List.getElem?_cons_zero, Option.some.injEq] at hx
    subst hx
    subst h
    simp only [Nat.zero_mul, Nat.zero_add]
    exact cells_new W (enc y) E j u hu
  | succ i => simp at hx
theorem Own.belowG {α : Type} {enc : α → List Value} {sz : Nat} {E : TypeId} {w w' : World} {base : Nat} {v : Value} {l : List α} (hown : Own enc sz E w base v l) (hbase : base ≤ w.heap.size) (hg : w.grownBy w' v.ownBlock) : Below base w w' := by
  refine (Below.refl base w).grown hg hbase (fun k e => ?_)
  have h : w.ownsRow base E sz v l.length (l.flatMap enc) := hown
  rcases h.2 with ⟨rfl, _⟩ | ⟨g, cap, cur, rfl, hgb, _⟩
  · simp [Value.ownBlock] at e
  · simp only [Value.ownBlock, Option.some.injEq] at e
    omega
def lenStr : Value → Nat
  | .string s => s.size
  | _ => 0
def EntPost (B : Nat) (r : Option (List (Ent × Nat))) (v : Value) (b : Bool) (w : World) : Prop :=
  match r with
  | none => b = false ∧ v = .slice none 0 0
  | some es => b = true ∧ OwnE w B v es

set_option maxRecDepth 100000 in
set_option maxHeartbeats 4000000 in
/-- Entries, without offsets. -/
theorem entries_any (s : ByteArray) (w : World) (hs : s.size ≤ 1048576000) :
    Calls Try.prog 42 #[.string s] w fun e w' => ∃ v b, e = .returned (.tuple #[v, .bool b]) ∧ EntPost w.heap.size ((entL (bytesN s)).map fun es => es.map fun x => (x, 0)) v b w' ∧ Below w.heap.size w w' := by
  obtain ⟨i0, hi, hz0, hz1, hz2⟩ := info_parts info43
  go_enter Try.func42, Try.ntmps42
  go_wp2_with fail
  go_loopw [0, 4] (fun dv ov wr => ∃ (d : ByteArray) (q : List Ent), dv = .string d ∧ d.size + q.length ≤ s.size ∧ Hid (entL (bytesN s) = (entL (bytesN d)).map fun t => q ++ t) ∧ OwnE wr w.heap.size ov (q.map fun x => (x, 0)) ∧ Below w.heap.size w wr) (fun dv _ _ => lenStr dv)
  case atStart => exact ⟨s, [], rfl, by simp, Lib.hid (by simp), Own.nil _ _, Below.refl _ _⟩
  case round =>
    obtain ⟨d, q, rfl, hsz, HE, hown, hb⟩ := hrel
    have hbz := hb.size
    by_cases hpos : 0 < d.size
    · obtain ⟨c, hc⟩ : ∃ c, d[0].toNat = c := ⟨_, rfl⟩
      have hcl : c < 256 := by rw [← hc]; exact d[0].toNat_lt
      obtain ⟨hE1, hE2⟩ := entL_step d hpos c hc
      by_cases hsh : d.size < 9 + c
      · have HN : Hid (entL (bytesN s) = none) := Lib.hid (by rw [HE.out, hE1 hsh]; rfl)
        clear hE1 hE2
        go_wp2_with fail
        go_ret2
        refine ⟨_, _, rfl, ?_, hb⟩
        rw [HN.out]
        exact ⟨rfl, rfl⟩
      · have hE3 := hE2 (by omega)
        have HE3 := Lib.hid hE3
        clear hE1 hE2
        obtain ⟨n, hn⟩ : ∃ n, n = 1 + c := ⟨_, rfl⟩
        obtain ⟨m, hm⟩ : ∃ m, m = 5 + c := ⟨_, rfl⟩
        obtain ⟨r, hr⟩ : ∃ r, r = 9 + c := ⟨_, rfl⟩
        obtain ⟨x, hx⟩ : ∃ x, x = d.extract 1 n := ⟨_, rfl⟩
        obtain ⟨z, hz⟩ : ∃ z, z = get4 (bytesN d) n := ⟨_, rfl⟩
        obtain ⟨u, hu⟩ : ∃ u, u = get4 (bytesN d) m := ⟨_, rfl⟩
        obtain ⟨d', hd'⟩ : ∃ d', d' = d.extract r d.size := ⟨_, rfl⟩
        rw [← hn, ← hm, ← hr, ← hx, ← hz, ← hu, ← hd'] at HE3
        have HT : Hid (entL (bytesN s) = (entL (bytesN d')).map fun t => (q ++ [⟨x, z, u⟩]) ++ t) := Lib.hid (by
          rw [HE.out, HE3.out, Option.map_map]
          congr 1
          funext t
          simp)
        have C1 : Hid (∀ W, Calls Try.prog 41 #[.string d, .int .i64 n] W fun e w' => e = .returned (.int .u32 z) ∧ ∃ k, w' = W.drewN k) := Lib.hid (fun W => by rw [hz]; exact number_get d n W (by omega) (by omega))
        have C2 : Hid (∀ W, Calls Try.prog 41 #[.string d, .int .i64 m] W fun e w' => e = .returned (.int .u32 u) ∧ ∃ k, w' = W.drewN k) := Lib.hid (fun W => by rw [hu]; exact number_get d m W (by omega) (by omega))
        have hzl : z < 4294967296 := by rw [hz]; exact get4_lt (bytesN_lt d) _
        have hul : u < 4294967296 := by rw [hu]; exact get4_lt (bytesN_lt d) _
        have hds : d'.size + r = d.size := by rw [hd', ByteArray.size_extract]; omega
        have hx' := hx.symm
        have hd2 := hd'.symm
        have en : (1 : Int) + (c : Int) = (n : Int) := by omega
        have em : IntKind.i64.wrap ((n : Int) + 4) = (m : Int) := by rw [IntWalk.i64_in _ (by omega)]; omega
        have ez : IntKind.i64.wrap (z : Int) = (z : Int) := IntWalk.i64_in _ (by omega)
        have er : (n : Int) + 8 = (r : Int) := by omega
        have k1 : (1 : Int) ≤ (n : Int) := by omega
        have k2 : (n : Int) ≤ (d.size : Int) := by omega
        have k3 : (r : Int) ≤ (d.size : Int) := by omega
        have k4 : r ≤ d.size := by omega
        have hql : q.length ≤ 1048576000 := by omega
        clear hE3 HE3 hx hz hu hd' hn hm hr
        go_wp2_with fail
        go_region_held_law (fun _ => True) (trivial)
          (first
            | (go_at_call 41; (with_reducible refine (C1.out _).mono ?_); rintro e w' ⟨rfl, a1, rfl⟩)
            | (go_at_call 41; (with_reducible refine (C2.out _).mono ?_); rintro e w' ⟨rfl, a2, rfl⟩)
            | (refine step_append_sl _ (by rfl) _ _ 39 (by rfl) w.heap.size 43 i0 _ 40 Try.underlying39 hi hz0 hz1 hz2 rfl (by decide) encE_length encE_each _ (q.map fun x => (x, 0)) (by rfl) (Own.alloc (Own.drewN hown _) _) (wr.heap.size + 1) _ [((⟨x, z, u⟩ : Ent), 0)] (by rfl) (Sl.one (enc := encE) (wr.drewN _) ((⟨x, z, u⟩ : Ent), 0) 43 wr.heap.size (by rfl) (wr.heap.size + 1) (by omega)) (by simp; omega) (by simp; omega) (by simp; omega) ?_; intro v1 w1 hown1 hg1))
        have hb2 : Below w.heap.size w w1 := ((below_drewN hb _).alloc (by simpa using hbz) _).trans (Own.belowG (Own.alloc (Own.drewN hown _) _) (by simp; omega) hg1)
        go_wp2_with fail
        go_roundw
        case rel => exact ⟨d', q ++ [⟨x, z, u⟩], rfl, by simp; omega, HT, by rw [List.map_append]; exact hown1, hb2⟩
        case measure => simp only [lenStr]; omega
    · have hd : bytesN d = [] := List.eq_nil_of_length_eq_zero (by rw [bytesN_length]; omega)
      have HN : Hid (entL (bytesN s) = some q) := Lib.hid (by rw [HE.out, hd, entL_nil]; simp)
      clear hd
      obtain ⟨A2, c2, rfl, _, _⟩ := Own.shape hown
      go_wp2_with fail
      go_ret2
      refine ⟨_, _, rfl, ?_, hb⟩
      rw [HN.out]
      exact ⟨rfl, hown⟩
end Go.Proofs.Ytdnaifkcogadkaa
