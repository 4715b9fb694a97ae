/- Walk: the law ArchiveOpens. -/
import Derived.Test.YtdnaifkcogadkaaO2
import Derived.Test.YtdnaifkcogadkaaDamages
namespace Go.Proofs.Ytdnaifkcogadkaa
open Go.RowKit

theorem Strs.at {w : World} {B n c : Nat} {A : Option Addr} {l : List ByteArray} (h : Sl encS 1 w B (.slice A n c) l) (k : Nat) (x : ByteArray) (hk : l[k]? = some x) :
    ∃ b o, A = some ⟨b, o, none⟩ ∧ b < B ∧ w.cell? ⟨b, o + k, none⟩ = some (.string x) := by
  obtain ⟨A', c', hv, h1, h2, h3⟩ := h
  injection hv with e1 e2 e3
  subst e1 e2 e3
  obtain ⟨b, o, rfl, hb, hc⟩ := h3 (by have := (List.getElem?_eq_some_iff.1 hk).1; omega)
  have := hc k x hk 0 _ rfl
  rw [Nat.mul_one, Nat.add_zero] at this
  exact ⟨b, o, rfl, hb, this⟩
theorem badN_append (l : List Nat) (X Y : List (Ent × Nat)) : badN l (X ++ Y) = badN l X ++ badN l Y := by unfold badN; rw [List.filter_append, List.map_append]
theorem badN_one (l : List Nat) (x : Ent × Nat) : badN l [x] = if datOk l x = true then [] else [x.1.name] := by
  unfold badN
  cases h : datOk l x <;> simp [h]
def ResInv (s nm : ByteArray) (Y : List (Ent × Nat)) (d : ByteArray) (n : Int) : Prop :=
  (∃ x ∈ Y, x.1.name = nm ∧ datPost s x d n) ∨ ((∀ x ∈ Y, x.1.name ≠ nm) ∧ d = ⟨#[]⟩ ∧ n = 8)
theorem ResInv.skip {s nm : ByteArray} {Y : List (Ent × Nat)} {d : ByteArray} {n : Int} {x : Ent × Nat} (h : ResInv s nm Y d n) (hx : x.1.name ≠ nm) : ResInv s nm (Y ++ [x]) d n := by
  rcases h with ⟨y, hy, h1, h2⟩ | ⟨h1, h2, h3⟩
  · exact .inl ⟨y, List.mem_append_left _ hy, h1, h2⟩
  · refine .inr ⟨fun y hy => ?_, h2, h3⟩
    rcases List.mem_append.1 hy with hy | hy
    · exact h1 y hy
    · rw [List.mem_singleton.1 hy]; exact hx
theorem ResInv.hit {s nm : ByteArray} {Y : List (Ent × Nat)} {d : ByteArray} {n : Int} {x : Ent × Nat} (h : datPost s x d n) (hx : x.1.name = nm) : ResInv s nm (Y ++ [x]) d n :=
  .inl ⟨x, List.mem_append_right _ (List.mem_singleton.2 rfl), hx, h⟩
theorem ResInv.none {s nm : ByteArray} {Y Z : List (Ent × Nat)} {d : ByteArray} {n : Int} {x : Ent × Nat} (h : ResInv s nm Y d n) (hS : SortedX (Y ++ x :: Z)) (hx : x.1.name = nm) : d = ⟨#[]⟩ ∧ n = 8 := by
  rcases h with ⟨y, hy, h1, h2⟩ | ⟨h1, h2, h3⟩
  · exfalso
    have h3 := (List.pairwise_append.1 hS).2.2 y hy x (by simp)
    rw [h1, hx] at h3
    exact List.lt_irrefl _ h3
  · exact ⟨h2, h3⟩
theorem datPost_one {s : ByteArray} {x : Ent × Nat} {d e : ByteArray} {n m : Int} (h1 : datPost s x d n) (h2 : datPost s x e m) : d = e ∧ n = m := by
  unfold datPost at h1 h2
  by_cases h : datOk (bytesN s) x = true
  · rw [if_pos h] at h1 h2; exact ⟨h1.1.trans h2.1.symm, h1.2.trans h2.2.symm⟩
  · rw [if_neg h] at h1 h2; exact ⟨h1.1.trans h2.1.symm, h1.2.trans h2.2.symm⟩
theorem ResInv.one {s nm : ByteArray} {Y : List (Ent × Nat)} {d e : ByteArray} {n m : Int} (hS : SortedX Y) (h1 : ResInv s nm Y d n) (h2 : ResInv s nm Y e m) : d = e ∧ n = m := by
  rcases h1 with ⟨x, hx, h3, h4⟩ | ⟨h3, h4, h5⟩ <;> rcases h2 with ⟨y, hy, h6, h7⟩ | ⟨h6, h7, h8⟩
  · have : x = y := by
      obtain ⟨i, hi, rfl⟩ := List.getElem_of_mem hx
      obtain ⟨j, hj, rfl⟩ := List.getElem_of_mem hy
      rcases Nat.lt_trichotomy i j with h | h | h
      · have := List.pairwise_iff_getElem.1 hS i j hi hj h
        rw [h3, h6] at this
        exact absurd this (List.lt_irrefl _)
      · subst h; rfl
      · have := List.pairwise_iff_getElem.1 hS j i hj hi h
        rw [h3, h6] at this
        exact absurd this (List.lt_irrefl _)
    subst this
    exact datPost_one h4 h7
  · exact absurd h3 (h6 x hx)
  · exact absurd h6 (h3 y hy)
  · exact ⟨h4.trans h7.symm, h5.trans h8.symm⟩

set_option maxRecDepth 100000 in
set_option maxHeartbeats 8000000 in
theorem opens_any (v : Value) (l : List Prt) (s0 : ByteArray) (at_ xo : Nat) (w : World) (h : Parts w w.heap.size v l) (hs0 : s0.size ≤ 9223372036854775807) (ha : at_ < 65536) (hx : xo < 256) :
    Calls Try.prog 10 #[v, .string s0, .agg #[.int .u16 at_, .int .u8 xo]] w fun e w' => e = .returned (.bool true) ∧ Below w.heap.size w w' := by
  have m0 : (0 : Int) ≤ min (s0.size : Int) 60 := by omega
  have m1 : min (s0.size : Int) 60 ≤ (s0.size : Int) := by omega
  obtain ⟨nm, hnm⟩ : ∃ t, t = s0.extract 0 (min (s0.size : Int) 60).toNat := ⟨_, rfl⟩
  have hnm' := hnm.symm
  clear hnm
  have hbx : (w.alloc (.cells #[.int .u16 (at_ : Int), .int .u8 (xo : Int)] 31)).drew.heap[w.heap.size]? = some (.cells #[.int .u16 (at_ : Int), .int .u8 (xo : Int)] 31 (0, 0)) := heap_alloc_new _ _
  have hb0 : Below w.heap.size w (w.alloc (.cells #[.int .u16 (at_ : Int), .int .u8 (xo : Int)] 31)).drew := ((Below.refl w.heap.size w).alloc (Nat.le_refl _) _).drew
  have hP0 := Sl.over h hb0
  have hF := Lib.hid (few_any v l (w.alloc (.cells #[.int .u16 (at_ : Int), .int .u8 (xo : Int)] 31)).drew hP0)
  have HBX := Lib.hid hbx
  have hSm := Lib.hid (few_small l)
  obtain ⟨f, hf⟩ : ∃ f, f = fewL l := ⟨_, rfl⟩
  rw [← hf] at hSm hF
  clear h hP0 hf hbx
  go_enter Try.func10, Try.ntmps10
  go_wp2_with fail
  go_region_held_law (fun _ => True) (trivial)
    (first
      | (go_at_call 13; (with_reducible refine hF.out.mono ?_); rintro e w1 ⟨v1, rfl, hown, hk1⟩))
  all_goals (
    have hP1 := hown.sl encP_length
    have hbx1 := (hk1.block _ (lt_of_block HBX.out)).trans HBX.out
    have hb1 := hb0.trans (hk1.mono hb0.size)
    clear hown hk1 hF hb0 HBX
    go_wp2_with fail
    refine (known_any w1).mono ?_
    rintro e w2 ⟨rfl, hk2⟩
    have hP2 := hP1.over hk2
    have hbx2 := (hk2.block _ (lt_of_block hbx1)).trans hbx1
    have hb2 := hb1.trans (hk2.mono hb1.size)
    clear hP1 hk2 hbx1 hb1
    go_wp2_with fail
    refine (encode_any v1 f w2 hP2 hSm.out).mono ?_
    rintro e w3 ⟨s, n, rfl, hp, hk3⟩
    have hbx3 := (hk3.block _ (lt_of_block hbx2)).trans hbx2
    have hb3 := hb2.trans (hk3.mono hb2.size)
    clear hP2 hbx2 hb2 hk3
    by_cases he : errE f = 0
    case neg =>
      have hn : n ≠ 0 := by rw [hp.1]; exact he
      have hn1 : (n != 0) = true := by simpa using hn
      clear hp he hn hbx3
      go_wp2_with fail
      go_ret
      exact ⟨rfl, hb3⟩
    obtain ⟨q, hA⟩ := hp.arc he
    have hn : n = 0 := hp.1.trans he
    have hsz := hA.size
    have hpos : 0 < s.size := by
      have h1 := hA.bytes
      have h2 := encL_ne q
      rw [← h1] at h2
      rcases Nat.eq_zero_or_pos s.size with h0 | h0
      · exact absurd (List.eq_nil_of_length_eq_zero (by rw [bytesN_length]; exact h0)) h2
      · exact h0
    clear hp he hA
    subst hn
    have hc0 : w3.cell? ⟨w.heap.size, 0, none⟩ = some (.int .u16 (at_ : Int)) := blk_cell hbx3 0
    have hc1 : w3.cell? ⟨w.heap.size, 1, none⟩ = some (.int .u8 (xo : Int)) := blk_cell hbx3 1
    clear hbx3
    have hn2 : ((s.size : Int) == 0) = false := by rw [beq_eq_false_iff_ne]; omega
    have hn0 : ¬ ((s.size : Int) = 0) := by omega
    by_cases hx0 : xo = 0
    · subst hx0
      have hS : s.size ≤ 1048576000 := by omega
      clear hsz hpos hc0
      go_wp2_with fail
      have HSo := Lib.hid (dirX_sorted (bytesN s))
      have HL := Lib.hid (dirX_each (bytesN s))
      have hXl := dirX_len (bytesN s)
      have hlenS := Lib.hid (bytesN_length s)
      refine (open_any s nm w3 hS).mono ?_
      rintro e w4 ⟨d, nd, rfl, hop, hk4⟩
      have HOP := Lib.hid hop
      have hb4 := hb3.trans (hk4.mono hb3.size)
      clear hop hk4
      go_wp2_with fail
      refine (damaged_any s w4 hS).mono ?_
      rintro e w5 ⟨vb, ng, rfl, ⟨hng, hownb⟩, hk5⟩
      have hb5 := hb4.trans (hk5.mono hb4.size)
      have HNG := Lib.hid hng
      have HBS := Lib.hid (hownb.sl encS_length)
      clear hng hownb hk5 hb4
      go_wp2_with fail
      refine (directory_ref s w5 hS).mono ?_
      rintro e w6 ⟨vx, nw, rfl, ⟨hnw, _, hents⟩, hk6⟩
      have hb6 := hb5.trans (hk6.mono hb5.size)
      have HBS6 := Lib.hid (Sl.over HBS.out hk6)
      have hgw : ng = nw := HNG.out.trans hnw.symm
      have HNW := Lib.hid hnw
      clear HNG hnw HBS hk6 hb5
      subst hgw
      obtain ⟨n1, n2⟩ := int_eq ng
      by_cases he : dirE (bytesN s) = 0
      case neg =>
        have hz0 : ng ≠ 0 := by rw [HNW.out]; exact he
        have hzn : (ng != 0) = true := by simpa using hz0
        have hO := HOP.out
        unfold openPost at hO
        rw [if_pos he, ← HNW.out] at hO
        obtain ⟨rfl, rfl⟩ := hO
        have hB := HBS6.out
        rw [dirX_bad he] at hB
        obtain ⟨Ab, cb, hvb, _⟩ := hB
        have hvb' : vb = .slice Ab 0 cb := hvb
        subst hvb'
        clear he hz0 hvb hents HBS6
        go_wp2_with fail
        go_ret
        exact ⟨rfl, hb6⟩
      have hg0 : ng = 0 := HNW.out.trans he
      have HE := Lib.hid he
      clear he HNW
      subst hg0
      have hO := HOP.out
      unfold openPost at hO
      rw [if_neg (by rw [HE.out]; decide)] at hO
      obtain ⟨X, hX⟩ : ∃ X, X = dirX (bytesN s) := ⟨_, rfl⟩
      rw [← hX] at HL HSo hents hXl HBS6 hO
      have HO : Hid (ResInv s nm X d nd) := Lib.hid hO
      clear hX hO HOP
      obtain ⟨Bs, hBs⟩ : ∃ Bs, Bs = badN (bytesN s) X := ⟨_, rfl⟩
      have HBE := Lib.hid hBs
      rw [← hBs] at HBS6
      obtain ⟨Ab, cb, rfl, hlb, hcb, _⟩ := id HBS6.out
      obtain ⟨A, c, rfl, hlc, hcm, _⟩ := id hents
      unfold maxLen at hcm hcb
      obtain ⟨m, hm⟩ : ∃ m, m = X.length := ⟨_, rfl⟩
      obtain ⟨mb, hmb⟩ : ∃ m, m = Bs.length := ⟨_, rfl⟩
      have HM := Lib.hid hm
      have HMB := Lib.hid hmb
      rw [← hm] at hents hlc hXl ⊢
      rw [← hmb] at HBS6 hlb ⊢
      have HEN := Lib.hid hents
      have hmbm : mb ≤ 64 := by
        rw [hmb, hBs]
        unfold badN
        rw [List.length_map]
        have := List.length_filter_le (fun x => !datOk (bytesN s) x) X
        omega
      clear hents hm hmb hBs
      go_wp2_with fail
      go_loopw [16, 17, 18, 19] (fun nv rv cv iv wr => ∃ (k t : Nat) (r : ByteArray) (z : Int), k ≤ m ∧ iv = .int .i64 k ∧ nv = .int .i64 t ∧ rv = .string r ∧ cv = .int .i64 z ∧ Hid (t = (badN (bytesN s) (X.take k)).length) ∧ t ≤ mb ∧ Hid (ResInv s nm (X.take k) r z) ∧ Below w6.heap.size w6 wr) (fun _ _ _ iv _ => m - (intOf iv).toNat)
      case atStart => exact ⟨0, 0, ⟨#[]⟩, 8, Nat.zero_le _, rfl, rfl, rfl, rfl, Lib.hid rfl, Nat.zero_le _, Lib.hid (.inr ⟨fun x hx => by simp at hx, rfl, rfl⟩), Below.refl _ _⟩
      case round =>
        obtain ⟨k, t, r, z, hk, rfl, rfl, rfl, rfl, HT, htb, HR, hb⟩ := hrel
        have hbz := hb.size
        by_cases hlt : k < m
        · obtain ⟨x, hx⟩ : ∃ x, X[k]? = some x := ⟨X[k]'(by rw [← HM.out]; exact hlt), by simp⟩
          obtain ⟨b, o, hA, hbB, c0, c1, c2, c3⟩ := Ents.at (Sl.over HEN.out hb) k x hx
          subst hA
          have HTk : Hid (X.take (k + 1) = X.take k ++ [x]) := Lib.hid (by rw [List.take_add_one, hx]; rfl)
          have HXs : Hid (X = X.take k ++ x :: X.drop (k + 1)) := Lib.hid (by
            obtain ⟨hk1, hk2⟩ := List.getElem?_eq_some_iff.1 hx
            rw [← hk2, ← List.drop_eq_getElem_cons hk1, List.take_append_drop])
          obtain ⟨e1, e2, e3⟩ := HL.out x (List.mem_of_getElem? hx)
          rw [hlenS.out] at e1
          clear hx e3
          have HBn : Hid (badN (bytesN s) (X.take (k + 1)) = badN (bytesN s) (X.take k) ++ badN (bytesN s) [x]) := Lib.hid (by rw [HTk.out, badN_append])
          have HBx : Hid (Bs = badN (bytesN s) (X.take k) ++ (badN (bytesN s) [x] ++ badN (bytesN s) (X.drop (k + 1)))) := Lib.hid (by
            rw [HBE.out]
            conv => lhs; rw [HXs.out]
            rw [← badN_append, ← badN_append]
            rfl)
          have HSX : Hid (SortedX (X.take k ++ x :: X.drop (k + 1))) := Lib.hid (by rw [← HXs.out]; exact HSo.out)
          have HMIs := Lib.hid (fun h : x.1.name ≠ nm => (show ResInv s nm (X.take (k + 1)) r z by rw [HTk.out]; exact HR.out.skip h))
          have HHIT := Lib.hid (fun (h : x.1.name = nm) (d' : ByteArray) (z' : Int) (hp : datPost s x d' z') => (show ResInv s nm (X.take (k + 1)) d' z' by rw [HTk.out]; exact ResInv.hit hp h))
          have HNONE := Lib.hid (fun h : x.1.name = nm => HR.out.none HSX.out h)
          obtain ⟨⟨xn, sz, sm⟩, off⟩ := x
          simp only at c0 c1 c2 c3 e1 e2
          obtain ⟨en, hen⟩ : ∃ n, n = off + sz := ⟨_, rfl⟩
          have h1 : IntKind.i64.wrap ((off : Int) + (sz : Int)) = (en : Int) := by rw [IntWalk.i64_in _ (by omega)]; omega
          have h2 : (off : Int) + (sz : Int) = (en : Int) := by omega
          have k1 : (off : Int) ≤ (en : Int) := by omega
          have k2 : (en : Int) ≤ (s.size : Int) := by omega
          have k3 : en ≤ s.size := by omega
          have k4 : (k : Int) < (m : Int) := by omega
          obtain ⟨pt, hpt⟩ : ∃ d, d = s.extract off en := ⟨_, rfl⟩
          have HD : Hid (dataS s ((⟨xn, sz, sm⟩ : Ent), off) = pt) := Lib.hid (by unfold dataS; rw [hpt, hen])
          have hds : pt.size ≤ 1048576000 := by rw [hpt, ByteArray.size_extract]; omega
          have hpt' := hpt.symm
          obtain ⟨cr, hcr⟩ : ∃ c, c = crcL (bytesN pt) := ⟨_, rfl⟩
          have CS : Hid (∀ W, Calls Try.prog 20 #[.string pt] W fun e w' => e = .returned (.int .u32 cr) ∧ W = w') := Lib.hid (fun W => by rw [hcr]; exact sum_any pt W (by omega))
          have HOK : Hid (datOk (bytesN s) ((⟨xn, sz, sm⟩ : Ent), off) = (cr == sm)) := Lib.hid (by unfold datOk; rw [← dataS_bytes, HD.out, hcr])
          clear hpt hcr hen HSX
          by_cases hc : cr = sm
          · subst hc
            have hq := eq_nat cr
            have HT1 : Hid (t = (badN (bytesN s) (X.take (k + 1))).length) := Lib.hid (by rw [HBn.out, badN_one, if_pos (by rw [HOK.out]; simp), List.append_nil]; exact HT.out)
            have HDP : Hid (datPost s ((⟨xn, sz, cr⟩ : Ent), off) pt 0) := Lib.hid (by unfold datPost; rw [if_pos (by rw [HOK.out]; simp)]; exact ⟨HD.out.symm, rfl⟩)
            by_cases hnm1 : xn = nm
            · have HRn := Lib.hid (HHIT.out hnm1 _ _ HDP.out)
              have hqn : (xn.toList == nm.toList) = true := by rw [hnm1]; simp
              clear hnm1 HMIs HHIT HNONE
              go_wp2_with fail
              go_quiet (fail)
              clear h1 h2 c1 c2
              go_wp2_with fail
              go_region_held3 (fun w' => w'.cell? ⟨b, o + k * 4 + 3, none⟩ = some (.int .u32 cr))
                (first
                  | assumption
                  | exact c3)
                (first
                  | (go_at_call 20; (with_reducible refine (CS.out _).mono ?_); rintro e w' ⟨rfl, rfl⟩))
              go_wp2_with fail
              go_roundw
              case rel => exact ⟨k + 1, t, pt, 0, by omega, by go_num, rfl, rfl, rfl, HT1, htb, HRn, below_drewN hb _⟩
              case measure => simp [intOf]; omega
            · have HRn := Lib.hid (HMIs.out hnm1)
              have hqn : (xn.toList == nm.toList) = false := lists_ne hnm1
              clear hnm1 HMIs HHIT HNONE
              go_wp2_with fail
              go_quiet (fail)
              clear h1 h2 c1 c2
              go_wp2_with fail
              go_region_held3 (fun w' => w'.cell? ⟨b, o + k * 4 + 3, none⟩ = some (.int .u32 cr))
                (first
                  | assumption
                  | exact c3)
                (first
                  | (go_at_call 20; (with_reducible refine (CS.out _).mono ?_); rintro e w' ⟨rfl, rfl⟩))
              go_wp2_with fail
              go_roundw
              case rel => exact ⟨k + 1, t, r, z, by omega, by go_num, rfl, rfl, rfl, HT1, htb, HRn, below_drewN hb _⟩
              case measure => simp [intOf]; omega
          · have hq := neq_nat hc
            have hbx1 : badN (bytesN s) [((⟨xn, sz, sm⟩ : Ent), off)] = [xn] := by rw [badN_one, if_neg (by rw [HOK.out]; simpa using hc)]
            have HT1 : Hid (t + 1 = (badN (bytesN s) (X.take (k + 1))).length) := Lib.hid (by rw [HBn.out, hbx1, List.length_append, ← HT.out]; rfl)
            have HDP : Hid (datPost s ((⟨xn, sz, sm⟩ : Ent), off) ⟨#[]⟩ 33) := Lib.hid (by unfold datPost; rw [if_neg (by rw [HOK.out]; simpa using hc)]; exact ⟨rfl, rfl⟩)
            have hbt : Bs[t]? = some xn := by
              rw [HBx.out, hbx1, List.getElem?_append_right (by rw [← HT.out]; exact Nat.le_refl _), ← HT.out]
              simp
            have htm : t < mb := by rw [HMB.out]; exact (List.getElem?_eq_some_iff.1 hbt).1
            obtain ⟨b2, o2, hA2, _, d0⟩ := Strs.at (Sl.over HBS6.out hb) t xn hbt
            subst hA2
            have t1 : decide ((mb : Int) ≤ (t : Int)) = false := by simp; omega
            have t2 : decide (mb ≤ t) = false := by simp; omega
            have t3 : (t : Int) < (mb : Int) := by omega
            clear hbx1 hbt hc
            by_cases hnm1 : xn = nm
            · obtain ⟨hr0, hz0⟩ := HNONE.out hnm1
              subst hr0 hz0
              have HRn := Lib.hid (HHIT.out hnm1 _ _ HDP.out)
              have hqn : (xn.toList == nm.toList) = true := by rw [hnm1]; simp
              clear hnm1 HMIs HHIT HNONE
              go_wp2_with fail
              go_quiet (fail)
              clear h1 h2 c1 c2
              go_wp2_with fail
              go_region_held3 (fun w' => w'.cell? ⟨b, o + k * 4 + 3, none⟩ = some (.int .u32 sm))
                (first
                  | assumption
                  | exact c3)
                (first
                  | (go_at_call 20; (with_reducible refine (CS.out _).mono ?_); rintro e w' ⟨rfl, rfl⟩))
              go_wp2_with fail
              go_quiet (fail)
              go_wp2_with fail
              go_roundw
              case rel => exact ⟨k + 1, t + 1, ⟨#[]⟩, 33, by omega, by go_num, by go_num, rfl, rfl, HT1, by omega, HRn, below_drewN hb _⟩
              case measure => simp [intOf]; omega
            · have HRn := Lib.hid (HMIs.out hnm1)
              have hqn : (xn.toList == nm.toList) = false := lists_ne hnm1
              clear hnm1 HMIs HHIT HNONE
              go_wp2_with fail
              go_quiet (fail)
              clear h1 h2 c1 c2
              go_wp2_with fail
              go_region_held3 (fun w' => w'.cell? ⟨b, o + k * 4 + 3, none⟩ = some (.int .u32 sm))
                (first
                  | assumption
                  | exact c3)
                (first
                  | (go_at_call 20; (with_reducible refine (CS.out _).mono ?_); rintro e w' ⟨rfl, rfl⟩))
              go_wp2_with fail
              go_quiet (fail)
              go_wp2_with fail
              go_roundw
              case rel => exact ⟨k + 1, t + 1, r, z, by omega, by go_num, by go_num, rfl, rfl, HT1, by omega, HRn, below_drewN hb _⟩
              case measure => simp [intOf]; omega
        · have hkm : X.take k = X := List.take_of_length_le (by rw [← HM.out]; omega)
          have hR := HR.out
          rw [hkm] at hR
          obtain ⟨rfl, rfl⟩ := ResInv.one HSo.out hR HO.out
          have htm : t = mb := by rw [HT.out, hkm, HMB.out, HBE.out]
          have hbf := hb6.trans (hb.mono hb6.size)
          clear hkm hR
          subst htm
          have tt : ((t : Int) == (t : Int)) = true := by simp
          obtain ⟨y1, y2⟩ := int_eq z
          go_wp2_with fail
          go_ret
          exact ⟨rfl, hbf⟩
    · have hxp : decide ((0 : Int) < (xo : Int)) = true := by simp; omega
      have hxp2 : decide (0 < xo) = true := by simp; omega
      obtain ⟨a, ha1⟩ : ∃ a, a = at_ % s.size := ⟨_, rfl⟩
      have hal : a < s.size := by rw [ha1]; exact Nat.mod_lt _ hpos
      have hmod : (at_ : Int) % (s.size : Int) = (a : Int) := by rw [ha1]; simp
      clear ha1
      go_wp2_with fail
      rw [hmod]
      have h1 : IntKind.i64.wrap ((a : Int) + 1) = (a : Int) + 1 := IntWalk.i64_in _ (by omega)
      have h2 : 0 ≤ (a : Int) + 1 := by omega
      have h3 : (a : Int) + 1 ≤ (s.size : Int) := by omega
      have h4 : (a : Int) < (s.size : Int) := by omega
      have h5 : (a : Int) ≤ (s.size : Int) := by omega
      have h6 : ((a : Int) + 1).toNat = a + 1 := by omega
      obtain ⟨c, hcc⟩ : ∃ c, s[a].toNat = c := ⟨_, rfl⟩
      have hcl : c < 256 := by rw [← hcc]; exact s[a].toNat_lt
      have hxo := u8_xor_nat c xo hcl hx
      have hdl : c ^^^ xo < 256 := Nat.xor_lt_two_pow (n := 8) (by omega) (by omega)
      obtain ⟨dd, hd⟩ : ∃ d, d = c ^^^ xo := ⟨_, rfl⟩
      rw [← hd] at hxo hdl
      clear hd
      have hcv := conv1d w3 dd hdl
      have z1 : (s.extract 0 a).size = a := by rw [ByteArray.size_extract]; omega
      have z4 : (s.extract (a + 1) s.size).size = s.size - (a + 1) := by rw [ByteArray.size_extract]; omega
      obtain ⟨u1, hu1⟩ : ∃ u, u = s.extract 0 a := ⟨_, rfl⟩
      obtain ⟨u2, hu2⟩ : ∃ u, u = s.extract (a + 1) s.size := ⟨_, rfl⟩
      obtain ⟨o1, ho1⟩ : ∃ u, u = ofN [dd] := ⟨_, rfl⟩
      rw [← hu1] at z1
      rw [← hu2] at z4
      rw [← ho1] at hcv
      have y1 : o1.size = 1 := by rw [ho1]; exact ofN_size _
      obtain ⟨t1, ht1⟩ : ∃ u, u = u1 ++ o1 := ⟨_, rfl⟩
      obtain ⟨S, ht2⟩ : ∃ u, u = t1 ++ u2 := ⟨_, rfl⟩
      have q1 : t1.size = a + 1 := by rw [ht1, ByteArray.size_append, z1, y1]
      have q2 : S.size = s.size := by rw [ht2, ByteArray.size_append, q1, z4]; omega
      have hu1' := hu1.symm
      have hu2' := hu2.symm
      have j1 : ∀ w : World, (Op.stringOp .add u1 o1).run Try.prog w = .ok (.string t1) w := fun w => by rw [ht1]; exact run_string_add_sum w _ _ (by omega)
      have j2 : ∀ w : World, (Op.stringOp .add t1 u2).run Try.prog w = .ok (.string S) w := fun w => by rw [ht2]; exact run_string_add_sum w _ _ (by omega)
      have hS : S.size ≤ 1048576000 := by omega
      have hcD : w3.drew.cell? ⟨w.heap.size, 1, none⟩ = some (.int .u8 (xo : Int)) := hc1
      have hcA : (w3.alloc (.cells #[.int .u8 (dd : Int)] 5)).drew.cell? ⟨w.heap.size, 1, none⟩ = some (.int .u8 (xo : Int)) := cell_over hc1 (((Below.refl _ w3).alloc (Nat.le_refl _) _).drew)
      have hbW : Below w.heap.size w (w3.alloc (.cells #[.int .u8 (dd : Int)] 5)).drew := (hb3.alloc hb3.size _).drew
      clear hu1 hu2 ho1 ht1 ht2 z1 z4 y1 q1 q2 hc0 hb3
      go_region_held_law (fun w' => w'.cell? ⟨w.heap.size, 1, none⟩ = some (.int .u8 (xo : Int)))
        (first
          | assumption
          | exact hcD
          | exact hcA)
        (first | fail)
      all_goals (
        obtain ⟨WS, hWS⟩ : ∃ W, W = (w3.alloc (.cells #[.int .u8 (dd : Int)] 5)).drew := ⟨_, rfl⟩
        rw [← hWS] at hbW ⊢
        clear hWS hcv j1 j2 h1 h2 h3 h4 h5 h6 hmod hxo hcD hcA hc1 hu1' hu2'
        go_wp2_with fail
        have HSo := Lib.hid (dirX_sorted (bytesN S))
        have HL := Lib.hid (dirX_each (bytesN S))
        have hXl := dirX_len (bytesN S)
        have hlenS := Lib.hid (bytesN_length S)
        refine (open_any S nm WS hS).mono ?_
        rintro e w4 ⟨d, nd, rfl, hop, hk4⟩
        have HOP := Lib.hid hop
        have hb4 := hbW.trans (hk4.mono hbW.size)
        clear hop hk4
        go_wp2_with fail
        refine (damaged_any S w4 hS).mono ?_
        rintro e w5 ⟨vb, ng, rfl, ⟨hng, hownb⟩, hk5⟩
        have hb5 := hb4.trans (hk5.mono hb4.size)
        have HNG := Lib.hid hng
        have HBS := Lib.hid (hownb.sl encS_length)
        clear hng hownb hk5 hb4
        go_wp2_with fail
        refine (directory_ref S w5 hS).mono ?_
        rintro e w6 ⟨vx, nw, rfl, ⟨hnw, _, hents⟩, hk6⟩
        have hb6 := hb5.trans (hk6.mono hb5.size)
        have HBS6 := Lib.hid (Sl.over HBS.out hk6)
        have hgw : ng = nw := HNG.out.trans hnw.symm
        have HNW := Lib.hid hnw
        clear HNG hnw HBS hk6 hb5
        subst hgw
        obtain ⟨n1, n2⟩ := int_eq ng
        by_cases he : dirE (bytesN S) = 0
        case neg =>
          have hz0 : ng ≠ 0 := by rw [HNW.out]; exact he
          have hzn : (ng != 0) = true := by simpa using hz0
          have hO := HOP.out
          unfold openPost at hO
          rw [if_pos he, ← HNW.out] at hO
          obtain ⟨rfl, rfl⟩ := hO
          have hB := HBS6.out
          rw [dirX_bad he] at hB
          obtain ⟨Ab, cb, hvb, _⟩ := hB
          have hvb' : vb = .slice Ab 0 cb := hvb
          subst hvb'
          clear he hz0 hvb hents HBS6
          go_wp2_with fail
          go_ret
          exact ⟨rfl, hb6⟩
        have hg0 : ng = 0 := HNW.out.trans he
        have HE := Lib.hid he
        clear he HNW
        subst hg0
        have hO := HOP.out
        unfold openPost at hO
        rw [if_neg (by rw [HE.out]; decide)] at hO
        obtain ⟨X, hX⟩ : ∃ X, X = dirX (bytesN S) := ⟨_, rfl⟩
        rw [← hX] at HL HSo hents hXl HBS6 hO
        have HO : Hid (ResInv S nm X d nd) := Lib.hid hO
        clear hX hO HOP
        obtain ⟨Bs, hBs⟩ : ∃ Bs, Bs = badN (bytesN S) X := ⟨_, rfl⟩
        have HBE := Lib.hid hBs
        rw [← hBs] at HBS6
        obtain ⟨Ab, cb, rfl, hlb, hcb, _⟩ := id HBS6.out
        obtain ⟨A, c, rfl, hlc, hcm, _⟩ := id hents
        unfold maxLen at hcm hcb
        obtain ⟨m, hm⟩ : ∃ m, m = X.length := ⟨_, rfl⟩
        obtain ⟨mb, hmb⟩ : ∃ m, m = Bs.length := ⟨_, rfl⟩
        have HM := Lib.hid hm
        have HMB := Lib.hid hmb
        rw [← hm] at hents hlc hXl ⊢
        rw [← hmb] at HBS6 hlb ⊢
        have HEN := Lib.hid hents
        have hmbm : mb ≤ 64 := by
          rw [hmb, hBs]
          unfold badN
          rw [List.length_map]
          have := List.length_filter_le (fun x => !datOk (bytesN S) x) X
          omega
        clear hents hm hmb hBs
        go_wp2_with fail
        go_loopw [16, 17, 18, 19] (fun nv rv cv iv wr => ∃ (k t : Nat) (r : ByteArray) (z : Int), k ≤ m ∧ iv = .int .i64 k ∧ nv = .int .i64 t ∧ rv = .string r ∧ cv = .int .i64 z ∧ Hid (t = (badN (bytesN S) (X.take k)).length) ∧ t ≤ mb ∧ Hid (ResInv S nm (X.take k) r z) ∧ Below w6.heap.size w6 wr) (fun _ _ _ iv _ => m - (intOf iv).toNat)
        case atStart => exact ⟨0, 0, ⟨#[]⟩, 8, Nat.zero_le _, rfl, rfl, rfl, rfl, Lib.hid rfl, Nat.zero_le _, Lib.hid (.inr ⟨fun x hx => by simp at hx, rfl, rfl⟩), Below.refl _ _⟩
        case round =>
          obtain ⟨k, t, r, z, hk, rfl, rfl, rfl, rfl, HT, htb, HR, hb⟩ := hrel
          have hbz := hb.size
          by_cases hlt : k < m
          · obtain ⟨x, hx⟩ : ∃ x, X[k]? = some x := ⟨X[k]'(by rw [← HM.out]; exact hlt), by simp⟩
            obtain ⟨b, o, hA, hbB, c0, c1, c2, c3⟩ := Ents.at (Sl.over HEN.out hb) k x hx
            subst hA
            have HTk : Hid (X.take (k + 1) = X.take k ++ [x]) := Lib.hid (by rw [List.take_add_one, hx]; rfl)
            have HXs : Hid (X = X.take k ++ x :: X.drop (k + 1)) := Lib.hid (by
              obtain ⟨hk1, hk2⟩ := List.getElem?_eq_some_iff.1 hx
              rw [← hk2, ← List.drop_eq_getElem_cons hk1, List.take_append_drop])
            obtain ⟨e1, e2, e3⟩ := HL.out x (List.mem_of_getElem? hx)
            rw [hlenS.out] at e1
            clear hx e3
            have HBn : Hid (badN (bytesN S) (X.take (k + 1)) = badN (bytesN S) (X.take k) ++ badN (bytesN S) [x]) := Lib.hid (by rw [HTk.out, badN_append])
            have HBx : Hid (Bs = badN (bytesN S) (X.take k) ++ (badN (bytesN S) [x] ++ badN (bytesN S) (X.drop (k + 1)))) := Lib.hid (by
              rw [HBE.out]
              conv => lhs; rw [HXs.out]
              rw [← badN_append, ← badN_append]
              rfl)
            have HSX : Hid (SortedX (X.take k ++ x :: X.drop (k + 1))) := Lib.hid (by rw [← HXs.out]; exact HSo.out)
            have HMIS := Lib.hid (fun h : x.1.name ≠ nm => (show ResInv S nm (X.take (k + 1)) r z by rw [HTk.out]; exact HR.out.skip h))
            have HHIT := Lib.hid (fun (h : x.1.name = nm) (d' : ByteArray) (z' : Int) (hp : datPost S x d' z') => (show ResInv S nm (X.take (k + 1)) d' z' by rw [HTk.out]; exact ResInv.hit hp h))
            have HNONE := Lib.hid (fun h : x.1.name = nm => HR.out.none HSX.out h)
            obtain ⟨⟨xn, sz, sm⟩, off⟩ := x
            simp only at c0 c1 c2 c3 e1 e2
            obtain ⟨en, hen⟩ : ∃ n, n = off + sz := ⟨_, rfl⟩
            have h1 : IntKind.i64.wrap ((off : Int) + (sz : Int)) = (en : Int) := by rw [IntWalk.i64_in _ (by omega)]; omega
            have h2 : (off : Int) + (sz : Int) = (en : Int) := by omega
            have k1 : (off : Int) ≤ (en : Int) := by omega
            have k2 : (en : Int) ≤ (S.size : Int) := by omega
            have k3 : en ≤ S.size := by omega
            have k4 : (k : Int) < (m : Int) := by omega
            obtain ⟨pt, hpt⟩ : ∃ d, d = S.extract off en := ⟨_, rfl⟩
            have HD : Hid (dataS S ((⟨xn, sz, sm⟩ : Ent), off) = pt) := Lib.hid (by unfold dataS; rw [hpt, hen])
            have hds : pt.size ≤ 1048576000 := by rw [hpt, ByteArray.size_extract]; omega
            have hpt' := hpt.symm
            obtain ⟨cr, hcr⟩ : ∃ c, c = crcL (bytesN pt) := ⟨_, rfl⟩
            have CS : Hid (∀ W, Calls Try.prog 20 #[.string pt] W fun e w' => e = .returned (.int .u32 cr) ∧ W = w') := Lib.hid (fun W => by rw [hcr]; exact sum_any pt W (by omega))
            have HOK : Hid (datOk (bytesN S) ((⟨xn, sz, sm⟩ : Ent), off) = (cr == sm)) := Lib.hid (by unfold datOk; rw [← dataS_bytes, HD.out, hcr])
            clear hpt hcr hen HSX
            by_cases hc : cr = sm
            · subst hc
              have hq := eq_nat cr
              have HT1 : Hid (t = (badN (bytesN S) (X.take (k + 1))).length) := Lib.hid (by rw [HBn.out, badN_one, if_pos (by rw [HOK.out]; simp), List.append_nil]; exact HT.out)
              have HDP : Hid (datPost S ((⟨xn, sz, cr⟩ : Ent), off) pt 0) := Lib.hid (by unfold datPost; rw [if_pos (by rw [HOK.out]; simp)]; exact ⟨HD.out.symm, rfl⟩)
              by_cases hnm1 : xn = nm
              · have HRn := Lib.hid (HHIT.out hnm1 _ _ HDP.out)
                have hqn : (xn.toList == nm.toList) = true := by rw [hnm1]; simp
                clear hnm1 HMIS HHIT HNONE
                go_wp2_with fail
                go_quiet (fail)
                clear h1 h2 c1 c2
                go_wp2_with fail
                go_region_held3 (fun w' => w'.cell? ⟨b, o + k * 4 + 3, none⟩ = some (.int .u32 cr))
                  (first
                    | assumption
                    | exact c3)
                  (first
                    | (go_at_call 20; (with_reducible refine (CS.out _).mono ?_); rintro e w' ⟨rfl, rfl⟩))
                go_wp2_with fail
                go_roundw
                case rel => exact ⟨k + 1, t, pt, 0, by omega, by go_num, rfl, rfl, rfl, HT1, htb, HRn, below_drewN hb _⟩
                case measure => simp [intOf]; omega
              · have HRn := Lib.hid (HMIS.out hnm1)
                have hqn : (xn.toList == nm.toList) = false := lists_ne hnm1
                clear hnm1 HMIS HHIT HNONE
                go_wp2_with fail
                go_quiet (fail)
                clear h1 h2 c1 c2
                go_wp2_with fail
                go_region_held3 (fun w' => w'.cell? ⟨b, o + k * 4 + 3, none⟩ = some (.int .u32 cr))
                  (first
                    | assumption
                    | exact c3)
                  (first
                    | (go_at_call 20; (with_reducible refine (CS.out _).mono ?_); rintro e w' ⟨rfl, rfl⟩))
                go_wp2_with fail
                go_roundw
                case rel => exact ⟨k + 1, t, r, z, by omega, by go_num, rfl, rfl, rfl, HT1, htb, HRn, below_drewN hb _⟩
                case measure => simp [intOf]; omega
            · have hq := neq_nat hc
              have hbx1 : badN (bytesN S) [((⟨xn, sz, sm⟩ : Ent), off)] = [xn] := by rw [badN_one, if_neg (by rw [HOK.out]; simpa using hc)]
              have HT1 : Hid (t + 1 = (badN (bytesN S) (X.take (k + 1))).length) := Lib.hid (by rw [HBn.out, hbx1, List.length_append, ← HT.out]; rfl)
              have HDP : Hid (datPost S ((⟨xn, sz, sm⟩ : Ent), off) ⟨#[]⟩ 33) := Lib.hid (by unfold datPost; rw [if_neg (by rw [HOK.out]; simpa using hc)]; exact ⟨rfl, rfl⟩)
              have hbt : Bs[t]? = some xn := by
                rw [HBx.out, hbx1, List.getElem?_append_right (by rw [← HT.out]; exact Nat.le_refl _), ← HT.out]
                simp
              have htm : t < mb := by rw [HMB.out]; exact (List.getElem?_eq_some_iff.1 hbt).1
              obtain ⟨b2, o2, hA2, _, d0⟩ := Strs.at (Sl.over HBS6.out hb) t xn hbt
              subst hA2
              have t1 : decide ((mb : Int) ≤ (t : Int)) = false := by simp; omega
              have t2 : decide (mb ≤ t) = false := by simp; omega
              have t3 : (t : Int) < (mb : Int) := by omega
              clear hbx1 hbt hc
              by_cases hnm1 : xn = nm
              · obtain ⟨hr0, hz0⟩ := HNONE.out hnm1
                subst hr0 hz0
                have HRn := Lib.hid (HHIT.out hnm1 _ _ HDP.out)
                have hqn : (xn.toList == nm.toList) = true := by rw [hnm1]; simp
                clear hnm1 HMIS HHIT HNONE
                go_wp2_with fail
                go_quiet (fail)
                clear h1 h2 c1 c2
                go_wp2_with fail
                go_region_held3 (fun w' => w'.cell? ⟨b, o + k * 4 + 3, none⟩ = some (.int .u32 sm))
                  (first
                    | assumption
                    | exact c3)
                  (first
                    | (go_at_call 20; (with_reducible refine (CS.out _).mono ?_); rintro e w' ⟨rfl, rfl⟩))
                go_wp2_with fail
                go_quiet (fail)
                go_wp2_with fail
                go_roundw
                case rel => exact ⟨k + 1, t + 1, ⟨#[]⟩, 33, by omega, by go_num, by go_num, rfl, rfl, HT1, by omega, HRn, below_drewN hb _⟩
                case measure => simp [intOf]; omega
              · have HRn := Lib.hid (HMIS.out hnm1)
                have hqn : (xn.toList == nm.toList) = false := lists_ne hnm1
                clear hnm1 HMIS HHIT HNONE
                go_wp2_with fail
                go_quiet (fail)
                clear h1 h2 c1 c2
                go_wp2_with fail
                go_region_held3 (fun w' => w'.cell? ⟨b, o + k * 4 + 3, none⟩ = some (.int .u32 sm))
                  (first
                    | assumption
                    | exact c3)
                  (first
                    | (go_at_call 20; (with_reducible refine (CS.out _).mono ?_); rintro e w' ⟨rfl, rfl⟩))
                go_wp2_with fail
                go_quiet (fail)
                go_wp2_with fail
                go_roundw
                case rel => exact ⟨k + 1, t + 1, r, z, by omega, by go_num, by go_num, rfl, rfl, HT1, by omega, HRn, below_drewN hb _⟩
                case measure => simp [intOf]; omega
          · have hkm : X.take k = X := List.take_of_length_le (by rw [← HM.out]; omega)
            have hR := HR.out
            rw [hkm] at hR
            obtain ⟨rfl, rfl⟩ := ResInv.one HSo.out hR HO.out
            have htm : t = mb := by rw [HT.out, hkm, HMB.out, HBE.out]
            have hbf := hb6.trans (hb.mono hb6.size)
            clear hkm hR
            subst htm
            have tt : ((t : Int) == (t : Int)) = true := by simp
            obtain ⟨y1, y2⟩ := int_eq z
            go_wp2_with fail
            go_ret
            exact ⟨rfl, hbf⟩))
end Go.Proofs.Ytdnaifkcogadkaa
