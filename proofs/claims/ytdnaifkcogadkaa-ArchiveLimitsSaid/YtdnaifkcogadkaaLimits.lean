/- Walk: the law ArchiveLimits. -/
import Derived.Test.YtdnaifkcogadkaaB1
import Derived.Test.YtdnaifkcogadkaaReturns
namespace Go.Proofs.Ytdnaifkcogadkaa
open Go.RowKit

def limN (i : Nat) : ByteArray := ofN [112, 48 + i / 10, 48 + i % 10]
def limL (n : Nat) : List Prt := (List.range n).map fun i => (limN i, ⟨#[]⟩)
theorem limL_succ (n : Nat) : limL (n + 1) = limL n ++ [(limN n, ⟨#[]⟩)] := by unfold limL; rw [List.range_succ, List.map_append]; rfl
theorem limL_len (n : Nat) : (limL n).length = n := by simp [limL]
theorem limL_small {n : Nat} (h : n ≤ 100) : Small (limL n) := by
  refine ⟨by rw [limL_len]; omega, fun p hp => ?_⟩
  obtain ⟨i, _, rfl⟩ := List.mem_map.1 hp
  exact ⟨by show (limN i).size ≤ _; unfold limN; rw [ofN_size]; simp, by show (0 : Nat) ≤ _; omega⟩
theorem limE62 : errE (limL 62) = 0 := by kernel_rfl
theorem limE63 : errE (limL 63) = 0 := by kernel_rfl
theorem limE64 : errE (limL 64) = 0 := by kernel_rfl
theorem limE65 : errE (limL 65) = 9 := by kernel_rfl
theorem limE {n : Nat} (h1 : 62 ≤ n) (h2 : n ≤ 65) : errE (limL n) = if n ≤ 64 then 0 else 9 := by
  have h : n = 62 ∨ n = 63 ∨ n = 64 ∨ n = 65 := by omega
  rcases h with rfl | rfl | rfl | rfl
  · exact limE62
  · exact limE63
  · exact limE64
  · exact limE65
def bigN : ByteArray := ⟨#[98, 105, 103]⟩
def bigD (n : Nat) : ByteArray := ofN (List.replicate n 0)
theorem bigD_size (n : Nat) : (bigD n).size = n := by unfold bigD; rw [ofN_size, List.length_replicate]
theorem bigN_ok : nameL (bytesN bigN) = true := by kernel_rfl
theorem errE_big (n : Nat) : errE [(bigN, bigD n)] = if 1048576 < n then 10 else 0 := by
  have h : chkP (bigN, bigD n) = if 1048576 < n then 10 else 0 := by
    unfold chkP
    rw [if_pos bigN_ok]
    show (if 1048576 < (bigD n).size then 10 else 0 : Int) = _
    rw [bigD_size]
  unfold errE
  rw [if_neg (by simp)]
  unfold chkAll
  rw [h]
  by_cases hn : 1048576 < n
  · rw [if_pos hn]; rfl
  · rw [if_neg hn]; rfl
theorem conv3 (W : World) (a b c : Nat) (ha : a < 256) (hb : b < 256) (hc : c < 256) :
    (convert 35 9 (.slice (some ⟨W.heap.size, 0, none⟩) 3 3)).run Try.prog (W.alloc (.cells #[.int .u8 (a : Int), .int .u8 (b : Int), .int .u8 (c : Int)] 5)) = .ok (.string (ofN [a, b, c])) (W.alloc (.cells #[.int .u8 (a : Int), .int .u8 (b : Int), .int .u8 (c : Int)] 5)) :=
  run_bytes_str (W.alloc (.cells #[.int .u8 (a : Int), .int .u8 (b : Int), .int .u8 (c : Int)] 5)) ⟨W.heap.size, 0, none⟩ 3 [a, b, c] (fun x hx => by
    simp only [List.mem_cons, List.not_mem_nil, or_false] at hx
    omega) (fun j u hj => cells_at (W := W) rfl [.int .u8 (a : Int), .int .u8 (b : Int), .int .u8 (c : Int)] 5 j u hj)
theorem cellsN {W : World} {n : Nat} (h : n = W.heap.size) (cs : List Value) (E : TypeId) : ∀ j u, cs[j]? = some u → (W.alloc (.cells cs.toArray E)).cell? ⟨n, j, none⟩ = some u := by
  subst h
  exact cells_new W cs E
theorem conv3p (W : World) (b c : Nat) (hb : b < 256) (hc : c < 256) :
    (convert 35 9 (.slice (some ⟨W.heap.size, 0, none⟩) 3 3)).run Try.prog (W.alloc (.cells #[.int .u8 112, .int .u8 (b : Int), .int .u8 (c : Int)] 5)) = .ok (.string (ofN [112, b, c])) (W.alloc (.cells #[.int .u8 112, .int .u8 (b : Int), .int .u8 (c : Int)] 5)) :=
  conv3 W 112 b c (by decide) hb hc
theorem convBig (W : World) (n : Nat) :
    (convert 35 9 (.slice (some ⟨W.heap.size, 0, none⟩) n n)).run Try.prog (W.alloc (.cells (madeCells #[.int .u8 0] n) 5)) = .ok (.string (bigD n)) (W.alloc (.cells (madeCells #[.int .u8 0] n) 5)) := by
  have h := run_bytes_str (W.alloc (.cells (madeCells #[.int .u8 0] n) 5)) ⟨W.heap.size, 0, none⟩ n (List.replicate n 0) (fun b hb => by rw [List.eq_of_mem_replicate hb]; decide) (fun j u hj => by
    have e : (List.replicate n 0).flatMap encB = (madeCells #[Value.int .u8 0] n).toList := by
      rw [toList_madeCells_one]
      clear hj
      induction n with
      | zero => rfl
      | succ n ih => rw [List.replicate_succ, List.flatMap_cons, ih, List.replicate_succ]; rfl
    rw [e] at hj
    have := cells_at (W := W) rfl (madeCells #[Value.int .u8 0] n).toList 5 j u hj
    simpa using this)
  rw [List.length_replicate] at h
  exact h

set_option maxRecDepth 100000 in
set_option maxHeartbeats 8000000 in
theorem limits_any (c0 c1 : Nat) (w : World) (h0 : c0 < 256) (h1 : c1 < 256) : Calls Try.prog 5 #[.int .u8 c0, .int .u8 c1] w fun e w' => e = .returned (.bool true) ∧ Below w.heap.size w w' := by
  obtain ⟨i0, hi, hz0, hz1, hz2⟩ := info_parts info38
  obtain ⟨k0, hk0⟩ : ∃ k, k = c0 % 4 := ⟨_, rfl⟩
  have hk : (c0 : Int) % 4 = (k0 : Int) := by omega
  have hk4 : k0 < 4 := by omega
  obtain ⟨m, hm⟩ : ∃ m, m = c1 % 3 := ⟨_, rfl⟩
  have hm' : (c1 : Int) % 3 = (m : Int) := by omega
  have hm3 : m < 3 := by omega
  obtain ⟨n, hn⟩ : ∃ n, n = 62 + k0 := ⟨_, rfl⟩
  have hn' : (62 : Int) + (k0 : Int) = (n : Int) := by omega
  have hn62 : 62 ≤ n := by omega
  have hn65 : n ≤ 65 := by omega
  obtain ⟨sz, hsz⟩ : ∃ s, s = 1048575 + m := ⟨_, rfl⟩
  have hsz' : (1048575 : Int) + (m : Int) = (sz : Int) := by omega
  have hszl : sz ≤ 1048577 := by omega
  clear hk0 hm hn hsz
  go_enter Try.func5, Try.ntmps5
  go_wp2_with fail
  refine (known_any w).mono ?_
  rintro e w1 ⟨rfl, hk1⟩
  go_wp2_with fail
  try rw [hk]
  try rw [hn']
  go_loopw [5, 7] (fun ov iv wr => ∃ k : Nat, k ≤ n ∧ iv = .int .i64 k ∧ OwnP wr w1.heap.size ov (limL k) ∧ Below w1.heap.size w1 wr) (fun _ iv _ => n - (intOf iv).toNat)
  case atStart => exact ⟨0, Nat.zero_le _, rfl, Own.nil _ _, Below.refl _ _⟩
  case round =>
    obtain ⟨k, hkn, rfl, hown, hb⟩ := hrel
    have hbz := hb.size
    by_cases hlt : k < n
    · obtain ⟨a, ha⟩ : ∃ a, a = k / 10 := ⟨_, rfl⟩
      obtain ⟨b, hbb⟩ : ∃ b, b = k % 10 := ⟨_, rfl⟩
      have ha' : (k : Int) / 10 = (a : Int) := by omega
      have hb' : (k : Int) % 10 = (b : Int) := by omega
      have hal : a < 10 := by omega
      have hbl : b < 10 := by omega
      have ea : (48 : Int) + (a : Int) = ((48 + a : Nat) : Int) := by omega
      have eb : (48 : Int) + (b : Int) = ((48 + b : Nat) : Int) := by omega
      obtain ⟨x, hx⟩ : ∃ x, x = 48 + a := ⟨_, rfl⟩
      obtain ⟨y, hy⟩ : ∃ y, y = 48 + b := ⟨_, rfl⟩
      rw [← hx] at ea
      rw [← hy] at eb
      have wa : IntKind.u8.wrap (x : Int) = (x : Int) := by rw [IntKind.wrap_u8']; omega
      have wb : IntKind.u8.wrap (y : Int) = (y : Int) := by rw [IntKind.wrap_u8']; omega
      have hcv := conv3p wr x y (by omega) (by omega)
      have HL : Hid (limL (k + 1) = limL k ++ [(ofN [112, x, y], ⟨#[]⟩)]) := Lib.hid (by rw [limL_succ]; unfold limN; rw [hx, hy, ha, hbb])
      obtain ⟨nmv, hnv⟩ : ∃ s, s = ofN [112, x, y] := ⟨_, rfl⟩
      rw [← hnv] at HL hcv
      have hll := limL_len k
      have hkl : (limL k).length ≤ 100 := by omega
      have hOa := Own.alloc hown (.cells #[.int .u8 112, .int .u8 (x : Int), .int .u8 (y : Int)] 5)
      have hba := hb.alloc hbz (.cells #[.int .u8 112, .int .u8 (x : Int), .int .u8 (y : Int)] 5)
      obtain ⟨P, hP⟩ : ∃ P, P = limL k := ⟨_, rfl⟩
      rw [← hP] at hkl hOa HL
      clear ha hbb hx hy hnv hll hP hown
      go_wp2_with (at_builtin; go_loud (refine wpList_push _ rfl _ _ 22 rfl w1.heap.size 38 i0 _ 2 32 Try.underlying22 hi hz0 hz1 hz2 rfl (by decide) encP_length encP_eachR _ P rfl (Own.alloc hOa _) (wr.heap.size + 1) 1 (nmv, ⟨#[]⟩) rfl (cellsN (W := wr.alloc (.cells #[.int .u8 112, .int .u8 (x : Int), .int .u8 (y : Int)] 5)) (by simp) (encP (nmv, ⟨#[]⟩)) 38) (by omega) (by omega) (by simp; omega) ?_; intro v3 w3 hown3 hg3))
      have hb3 : Below w1.heap.size w1 w3 := (hba.alloc hba.size (.cells #[.string nmv, .string ⟨#[]⟩] 38)).trans (Own.belowG (Own.alloc hOa (.cells #[.string nmv, .string ⟨#[]⟩] 38)) (by simp; omega) hg3)
      clear ha' hb' ea eb wa wb hcv
      go_roundw
      case rel => exact ⟨k + 1, by omega, by go_num, by rw [HL.out]; exact hown3, hb3⟩
      case measure => simp [intOf]; omega
    · obtain rfl : k = n := by omega
      have hE := limE hn62 hn65
      have hP2 := hown.sl encP_length
      have hSm := Lib.hid (limL_small (n := k) (by omega))
      have hb2 := hk1.trans (hb.mono hk1.size)
      have HE := Lib.hid hE
      obtain ⟨f, hf⟩ : ∃ f, f = limL k := ⟨_, rfl⟩
      rw [← hf] at hP2 hSm HE
      clear hE hown hf hb hk1
      go_wp2_with fail
      refine (encode_any _ f wr hP2 hSm.out).mono ?_
      rintro e w3 ⟨s, n1, rfl, hp, hk3⟩
      have hN1 : n1 = if k ≤ 64 then 0 else 9 := hp.1.trans HE.out
      have HN1 := Lib.hid hN1
      have hb3 := hb2.trans (hk3.mono hb2.size)
      clear hp hk3 hb2 hN1 hP2
      have hmk := fun W : World => run_make_row' (P := Try.prog) 35 5 (.int .u8 0) 1 Try.underlying35 info5 rfl .i64 .i64 sz (by omega) (by omega) W
      have hcv := fun W : World => convBig W sz
      obtain ⟨D, hD⟩ : ∃ D, D = bigD sz := ⟨_, rfl⟩
      have HD := Lib.hid hD
      have hDs : D.size = sz := by rw [hD]; exact bigD_size sz
      rw [← hD] at hcv
      clear hD
      have HDS := Lib.hid hDs
      clear hDs
      have hSb : Small [(bigN, D)] := ⟨by simp, fun y hy => by rw [List.mem_singleton.1 hy]; exact ⟨by show bigN.size ≤ _; decide, by show D.size ≤ _; rw [HDS.out]; omega⟩⟩
      have HSb := Lib.hid hSb
      clear hSb
      have hSl : Parts ((w3.alloc (.cells (madeCells #[.int .u8 0] sz) 5)).alloc (.cells #[.string bigN, .string D] 38)) ((w3.alloc (.cells (madeCells #[.int .u8 0] sz) 5)).alloc (.cells #[.string bigN, .string D] 38)).heap.size (.slice (some ⟨w3.heap.size + 1, 0, none⟩) 1 1) [(bigN, D)] :=
        Sl.one (enc := encP) (w3.alloc (.cells (madeCells #[.int .u8 0] sz) 5)) (bigN, D) 38 (w3.heap.size + 1) (by simp) _ (by simp)
      have HCE := Lib.hid (encode_any _ [(bigN, D)] _ hSl HSb.out)
      have hb3a : Below w.heap.size w ((w3.alloc (.cells (madeCells #[.int .u8 0] sz) 5)).alloc (.cells #[.string bigN, .string D] 38)) := (hb3.alloc hb3.size _).alloc (by have := hb3.size; simp; omega) _
      clear hSl hb3
      go_wp2_with fail
      refine HCE.out.mono ?_
      rintro e w5 ⟨t, n2, rfl, hp2, hk5⟩
      have HP2 := Lib.hid hp2
      have hb5 := hb3a.trans (hk5.mono hb3a.size)
      clear hp2 hk5 hb3a HCE hcv hmk
      have hN2 : n2 = if 1048576 < sz then 10 else 0 := HP2.out.1.trans (by rw [HD.out]; exact errE_big sz)
      have hN1 := HN1.out
      have hq64 : (k ≤ 64 ∧ n1 = 0 ∧ decide ((k : Int) ≤ 64) = true ∧ decide (k ≤ 64) = true) ∨ (¬ k ≤ 64 ∧ n1 = 9 ∧ decide ((k : Int) ≤ 64) = false ∧ decide (k ≤ 64) = false) := by
        by_cases h : k ≤ 64
        · rw [if_pos h] at hN1
          exact .inl ⟨h, hN1, by simp; omega, by simp; omega⟩
        · rw [if_neg h] at hN1
          exact .inr ⟨h, hN1, by simp; omega, by simp; omega⟩
      clear hN1 HN1
      by_cases hbig : 1048576 < sz
      · rw [if_pos hbig] at hN2
        have ht : t = ⟨#[]⟩ := HP2.out.2.1 (by rw [HD.out, errE_big, if_pos hbig]; decide)
        have d1 : decide ((1048576 : Int) < (sz : Int)) = true := by simp; omega
        subst hN2 ht
        clear hbig HP2
        rcases hq64 with ⟨_, rfl, g1, g2⟩ | ⟨_, rfl, g1, g2⟩
        all_goals (
          go_wp2_with fail
          go_ret
          exact ⟨rfl, hb5⟩)
      · rw [if_neg hbig] at hN2
        have hE0 : errE [(bigN, D)] = 0 := by rw [HD.out, errE_big, if_neg hbig]
        have d1 : decide ((1048576 : Int) < (sz : Int)) = false := by simp; omega
        obtain ⟨q, hA⟩ := HP2.out.arc hE0
        obtain rfl : q = [(bigN, D)] := List.perm_singleton.1 hA.perm
        have hts := hA.size
        have hback := hA.back
        have hX : dirX (bytesN t) = [(entOf (bigN, D), endL (bytesN t) + 4)] := by rw [dirX_ok hback.dir, hback.ents]; rfl
        have HX := Lib.hid hX
        have HD0 := Lib.hid hback.dir
        subst hN2
        clear hbig HP2 hA hback hX hE0
        have HDR := Lib.hid (fun W => directory_any t W (by omega))
        rcases hq64 with ⟨_, rfl, g1, g2⟩ | ⟨_, rfl, g1, g2⟩
        all_goals (
          go_wp2_with fail
          refine (HDR.out _).mono ?_
          rintro e w6 ⟨v6, n6, rfl, ⟨hn6, _, hents⟩, hk6⟩
          rw [HD0.out] at hn6
          rw [HX.out] at hents
          subst hn6
          obtain ⟨A, c, rfl, hlc, hcm, _⟩ := id hents
          unfold maxLen at hcm
          obtain ⟨b, o, hA6, _, _, _, e2, _⟩ := Ents.at hents 0 _ rfl
          subst hA6
          simp only [Nat.zero_mul, Nat.add_zero, List.length_singleton] at e2 hlc ⊢
          have e2' : w6.cell? ⟨b, o + 2, none⟩ = some (.int .i64 (sz : Int)) := by
            rw [e2]
            show some (Value.int .i64 ((D.size : Nat) : Int)) = _
            rw [HDS.out]
          have zz : ((sz : Int) == (sz : Int)) = true := by simp
          have hb6 := hb5.trans (hk6.mono hb5.size)
          clear e2 hents hk6 hb5
          go_wp2_with fail
          go_ret
          exact ⟨rfl, hb6⟩)
end Go.Proofs.Ytdnaifkcogadkaa
