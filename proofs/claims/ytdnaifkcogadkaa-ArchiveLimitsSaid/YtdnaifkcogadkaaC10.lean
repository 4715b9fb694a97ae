/- Walk: Encode, where all parts are right. -/
import Derived.ArgAppend
import Derived.Lib.SlBytesConst
import Derived.Test.YtdnaifkcogadkaaC9
namespace Go.Proofs.Ytdnaifkcogadkaa
open Go.RowKit

theorem BoxP.two {w : World} {B : Nat} {x0 x1 : ByteArray} (h : BoxP w B x0 x1) : w.cell? ⟨B, 0, none⟩ = some (.string x0) ∧ BoxP w B x0 x1 := ⟨h.c0, h⟩
theorem BoxP.besides {w w' : World} {B : Nat} {x0 x1 : ByteArray} {v : Value} (h : BoxP w B x0 x1) (hne : some B ≠ v.ownBlock) (hg : w.grownBy w' v.ownBlock) : w'.cell? ⟨B, 0, none⟩ = some (.string x0) ∧ BoxP w' B x0 x1 :=
  BoxP.two ((hg.block B (lt_of_block h) hne).trans h)

theorem cells_byte (W : World) (n c : Nat) (h : n = W.heap.size) : ∀ (j : Nat) (u : Value), ([c].flatMap encB)[j]? = some u → (W.alloc (.cells #[.int .u8 ((c : Nat) : Int)] 5)).drew.cell? ((⟨n, 0, none⟩ : Addr).add j) = some u := fun j u hj =>
  cells_at h [.int .u8 ((c : Nat) : Int)] 5 j u hj

/-- '[]byte(magic)': the row, and the run-time's mark behind it. -/
theorem conv35 (w : World) (C : Array Value) (n c : Nat) : (convert 35 35 (.slice (some ⟨w.heap.size, 0, none⟩) n c)).run Try.prog (w.alloc (.cells C 5)) = .ok (.slice (some ⟨w.heap.size, 0, none⟩) n c) (w.alloc (.cells C 5 (C.size, C.size + 1))) :=
  Lib.run_convert_bytes_const w 35 5 C n c Try.underlying35 Try.underlying5
set_option maxRecDepth 100000 in
set_option maxHeartbeats 1000000 in
/-- append32 onto a full row: a new row is made. -/
theorem append32_full (ad : Addr) (l : List Nat) (n : Nat) (hn : n < 4294967296) (w : World) (hcell : ∀ j u, (l.flatMap encB)[j]? = some u → w.cell? (ad.add j) = some u) (hlen : l.length + 4 ≤ 140737488355328) :
    Calls Try.prog 39 #[.slice (some ad) l.length l.length, .int .u32 n] w fun e w' => ∃ v', e = .returned v' ∧ OwnB w' w.heap.size v' (l ++ put32 n) ∧ Below w.heap.size w w' := by
  have Hn := Lib.hid hn
  have HC := Lib.hid (fun j u (h : (l.flatMap encB)[j]? = some u) => cell_over (hcell j u h) ((Below.refl w.heap.size w).alloc (Nat.le_refl _) (.cells #[.int .u8 ((n : Int) / 16777216 % 256), .int .u8 ((n : Int) / 65536 % 256), .int .u8 ((n : Int) / 256 % 256), .int .u8 ((n : Int) % 256)] 5)))
  have HL := Lib.hid hlen
  clear hn hlen hcell
  obtain ⟨i0, hi, hz0, hz1, hz2⟩ := info_parts info5
  go_enter Try.func39, Try.ntmps39
  go_wp2_with (at_builtin; refine wpList_append_grows _ rfl _ _ 35 rfl 5 i0 _ 1 1 Try.underlying35 hi hz0 hz1 hz2 rfl (by decide) (some ad) l.length l.length (l.flatMap encB) rfl (by intro h; cases h) (by rw [flatMap_length encB_length]) (by intro b hb; cases hb; exact HC.out) ⟨w.heap.size, 0, none⟩ 4 4 ((put32 n).flatMap encB) rfl rfl (cells_put w n) (by simp [put32, encB, Value.oneCell']) (by omega) (by simp only [maxLen]; have := HL.out; omega) (by have := HL.out; omega) ?_; intro v' w1 hown' hg)
  have hO : OwnB w1 w.heap.size v' (l ++ put32 n) := by
    have h2 : OwnB w1 (w.alloc (.cells #[.int .u8 ((n : Int) / 16777216 % 256), .int .u8 ((n : Int) / 65536 % 256), .int .u8 ((n : Int) / 256 % 256), .int .u8 ((n : Int) % 256)] 5)).heap.size v' (l ++ put32 n) := by
      unfold OwnB Own
      rw [List.length_append, List.flatMap_append]
      exact hown'
    exact h2.lower (by simp)
  obtain ⟨A, c, rfl, _, _⟩ := Own.shape hO
  go_wp2_with fail
  go_ret
  exact ⟨_, rfl, hO, (Below.refl _ w).grown (grownBy_after hg) (Nat.le_refl _) (fun k e => by cases e)⟩
theorem OwnB.apart {W : World} {base base2 : Nat} {v : Value} {l : List Nat} (hd : OwnB W base v l) (hlt : W.heap.size ≤ base2) (W2 : World) (u : Value) (l2 : List Nat) (ho : OwnB W2 base2 u l2) : v.ownBlock = none ∨ v.ownBlock ≠ u.ownBlock := by
  rcases hd.2 with ⟨rfl, _⟩ | ⟨g, cap, cur, rfl, _, hgb, _⟩
  · exact .inl rfl
  · refine .inr fun e => ?_
    have hg := lt_of_block hgb
    rcases ho.2 with ⟨rfl, _⟩ | ⟨g2, cap2, cur2, rfl, h2, _⟩
    · simp [Value.ownBlock] at e
    · simp only [Value.ownBlock, Option.some.injEq] at e
      omega
theorem headL_lt (l : List Prt) : ∀ b ∈ headL l, b < 256 := fun b hb => by
  unfold headL at hb
  rcases List.mem_append.1 hb with hb | hb
  · rcases List.mem_append.1 hb with hb | hb
    · rcases List.mem_append.1 hb with hb | hb
      · simp only [List.mem_cons, List.not_mem_nil, or_false] at hb; omega
      · exact put32_lt _ _ hb
    · exact put32_lt _ _ hb
  · unfold dirL at hb
    obtain ⟨p, _, hp⟩ := List.mem_flatMap.1 hb
    exact dirOf_lt p b hp
theorem encL_lt (l : List Prt) : ∀ b ∈ encL l, b < 256 := fun b hb => by
  unfold encL at hb
  rcases List.mem_append.1 hb with hb | hb
  · rcases List.mem_append.1 hb with hb | hb
    · exact headL_lt l b hb
    · exact put32_lt _ _ hb
  · unfold dataL at hb
    obtain ⟨p, _, hp⟩ := List.mem_flatMap.1 hb
    exact bytesN_lt _ b hp
theorem headL_ne (l : List Prt) : headL l ≠ [] := by simp [headL]
theorem encL_ne (l : List Prt) : encL l ≠ [] := by simp [encL, headL]
theorem OwnB.str {w : World} {base : Nat} {v : Value} {l : List Nat} (h : OwnB w base v l) (hne : l ≠ []) (hlt : ∀ b ∈ l, b < 256) : (convert 35 9 v).run Try.prog w = .ok (.string (ofN l)) w := by
  obtain ⟨g, cap, rfl, hc⟩ := h.pos hne
  exact run_bytes_str w ⟨g, 0, none⟩ cap l hlt hc
theorem ofN_size (l : List Nat) : (ofN l).size = l.length := by simp [ofN, ByteArray.size]
theorem headL_len (l : List Prt) : (headL l).length = 12 + (dirL l).length := by simp [headL, put32]; omega
theorem xor_len (n : Nat) (h : n < 4294967296) : bits BinOp.xor IntKind.u32 IntKind.u32.max (n : Int) = ((ones ^^^ n : Nat) : Int) := by
  have := u32_xor_nat ones n (by decide) h
  exact this

set_option maxRecDepth 100000 in
set_option maxHeartbeats 8000000 in
theorem enc_ok (v : Value) (l : List Prt) (w : World) (h : Parts w w.heap.size v l) (hS : Small l) (he : errE l = 0) :
    Calls Try.prog 15 #[v] w fun e w' => (∃ (s : ByteArray) (l' : List Prt), e = .returned (.tuple #[.string s, .int .i64 0]) ∧ l'.Perm l ∧ SortedP l' ∧ bytesN s = encL l') ∧ Below w.heap.size w w' := by
  obtain ⟨A, c, rfl, hlc, hc, HP⟩ := h.part
  have HP := Lib.hid HP
  have HS := Lib.hid hS
  have hll := hS.1
  clear h hS
  have h64 : l.length ≤ 64 := by
    unfold errE at he
    by_cases h64 : 64 < l.length
    · rw [if_pos h64] at he; exact absurd he (by decide)
    · omega
  have HV : Hid (chkAll (l.drop 0) [] = 0) := Lib.hid (by unfold errE at he; rw [if_neg (by omega)] at he; exact he)
  clear he
  have hmm := @run_makeMap Try.prog
  go_enter Try.func15, Try.ntmps15
  go_wp2_with fail
  have hs0 := SeenAt.new w
  have hb0 : Below w.heap.size w (w.alloc (.map #[] 0)) := (Below.refl _ w).alloc (Nat.le_refl _) _
  go_loopw [20] (fun iv wr => ∃ (k : Nat) (S : List ByteArray), k ≤ l.length ∧ iv = .int .i64 k ∧ Hid (chkAll (l.drop k) S = 0) ∧ SeenAt wr w.heap.size S ∧ Below w.heap.size w wr) (fun iv _ => l.length - (intOf iv).toNat)
  case atStart => exact ⟨0, [], Nat.zero_le _, rfl, HV, hs0, hb0⟩
  case round =>
    obtain ⟨k, S, hk, rfl, HK, hseen, hb⟩ := hrel
    have hbz := hb.size
    by_cases hlt : k < l.length
    · obtain ⟨b, o, rfl, hbB, g1, g2⟩ := (HP.out.below hb) k hlt
      obtain ⟨hck, hsn, hnext⟩ := chkAll_zero l [] k hlt S HV.out HK.out
      obtain ⟨hn1, hn2⟩ := HS.out.2 l[k] (List.getElem_mem _)
      have HN := Lib.hid hnext
      have HC0 := Lib.hid hck
      clear hnext hck
      obtain ⟨x, hx⟩ : ∃ x, x = l[k] := ⟨_, rfl⟩
      rw [← hx] at g1 g2 HN HC0 hn1 hn2 hsn
      clear hx
      obtain ⟨x0, x1⟩ := x
      simp only at g1 g2 hn1 hn2 hsn
      have hbW : b < wr.heap.size := by omega
      have bP : BoxP (wr.alloc (.cells #[.string x0, .string x1] 38)) wr.heap.size x0 x1 := heap_alloc_new _ _
      have hbP : Below w.heap.size w (wr.alloc (.cells #[.string x0, .string x1] 38)) := hb.alloc hbz _
      have HSN := Lib.hid (hseen.below ((Below.refl _ wr).alloc (Nat.le_refl _) (.cells #[.string x0, .string x1] 38)))
      have HCK := Lib.hid (check_any x0 x1 (wr.alloc (.cells #[.string x0, .string x1] 38)) (by omega) (by omega))
      clear hseen
      go_wp2_with fail
      refine HCK.out.mono ?_
      rw [HC0.out]
      rintro e w1 ⟨rfl, hk1⟩
      have hs1 := HSN.out.below hk1
      have c0 := (bP.over hk1).c0
      have hb1 := hbP.trans (hk1.mono hbP.size)
      clear hk1 bP hbP
      go_wp2_with (first
        | (at_lookup; refine wpList_seen _ rfl _ _ 62 rfl 9 4 Try.underlying62 Try.underlying9 (zero4 _) w.heap.size S x0 rfl hs1 rfl ?_)
        | (at_mapUpdate; refine wpList_see _ rfl _ _ _ 62 rfl 9 4 Try.underlying62 Try.underlying9 w.heap.size S x0 rfl hs1 rfl rfl hsn ?_; intro w2 hs2 hg2))
      go_roundw
      case rel => exact ⟨k + 1, x0 :: S, by omega, by go_num, HN, hs2, hb1.trans ((Below.refl _ w1).grown hg2 hb1.size (fun j e => by cases e; exact Nat.le_refl _))⟩
      case measure => simp [intOf]; omega
    · -- behind the checks: the parts are sorted
      clear HK hseen
      go_wp2_with fail
      refine (values_any _ l.length _ wr).mono ?_
      rintro e w1 ⟨rfl, rfl⟩
      have hb1 : Below w.heap.size w (wr.alloc (.cells #[.slice A l.length c] 22)) := hb.alloc hbz _
      have hz1 : w.heap.size ≤ (wr.alloc (.cells #[.slice A l.length c] 22)).heap.size := by simp; omega
      go_wp2_with fail
      refine (sortedFunc_any wr.heap.size A c l _ (by simp) (blk_cell (heap_alloc_new wr _) 0) hlc hc ((HP.out.below hb1).more hz1) hll).mono ?_
      rintro e w3 ⟨v3, rfl, ps, hperm, hsort, hown3, hb3⟩
      have hb3' := hb1.trans (hb3.mono hz1)
      have HSP := Lib.hid (And.intro hperm hsort)
      have hpn : ps.length = l.length := hperm.length_eq
      have HSM : Hid (∀ p ∈ ps, p.1.size ≤ 1048576 ∧ p.2.size ≤ 4194304) := Lib.hid fun p hp => HS.out.2 p (hperm.mem_iff.1 hp)
      have hsl := hown3.sl encP_length
      obtain ⟨A3, c3, rfl, hlc3, hc3, HP3⟩ := Sl.part hsl
      have HP3 := Lib.hid HP3
      have hp64 : ps.length ≤ 64 := by omega
      have hz3 := hb3'.size
      clear hperm hsort hsl hown3 hb3 hb1 hz1 hpn
      go_wp2_with fail
      obtain ⟨wo, hwo⟩ : ∃ wo : World, wo = w3 := ⟨_, rfl⟩
      rw [← hwo] at HP3 hb3' hz3 ⊢
      clear hwo
      go_loopw [8, 42] (fun dv iv wq => ∃ (k : Nat) (l8 : List Nat), k ≤ ps.length ∧ iv = .int .i64 k ∧ OwnB wq wo.heap.size dv l8 ∧ l8.length ≤ k * 1048600 ∧ Hid (l8 = dirL (ps.take k)) ∧ Below wo.heap.size wo wq) (fun _ iv _ => ps.length - (intOf iv).toNat)
      case atStart => exact ⟨0, [], Nat.zero_le _, rfl, Own.nil _ _, by simp, Lib.hid rfl, Below.refl _ _⟩
      case round =>
        obtain ⟨k, l8, hk, rfl, hown8, hlen8, HL8, hbq⟩ := hrel
        have hbqz := hbq.size
        by_cases hlt : k < ps.length
        · obtain ⟨b, o, rfl, hbB, g1, g2⟩ := (HP3.out.below hbq) k hlt
          obtain ⟨hn1, hn2⟩ := HSM.out ps[k] (List.getElem_mem _)
          have HT : Hid (dirL (ps.take (k + 1)) = l8 ++ dirOf ps[k]) := Lib.hid (by rw [List.take_succ_eq_append_getElem hlt, HL8.out]; unfold dirL; rw [List.flatMap_append]; simp)
          obtain ⟨x, hx⟩ : ∃ x, x = ps[k] := ⟨_, rfl⟩
          rw [← hx] at g1 g2 hn1 hn2 HT
          clear hx
          obtain ⟨x0, x1⟩ := x
          simp only at g1 g2 hn1 hn2
          have hbW : b < wr.heap.size := by omega
          have hbase8 : wo.heap.size ≤ wr.heap.size := hbqz
          have bP : BoxP (wr.alloc (.cells #[.string x0, .string x1] 38)) wr.heap.size x0 x1 := heap_alloc_new _ _
          have hown8' := Own.alloc hown8 (.cells #[.string x0, .string x1] 38)
          have hb8 := hbq.alloc hbqz (.cells #[.string x0, .string x1] 38)
          have hbz8 := hb8.size
          have wr32 : IntKind.u32.wrap (x1.size : Int) = (x1.size : Int) := wrap_u32 _ (by omega)
          have wr8 : IntKind.u8.wrap (x0.size : Int) = ((x0.size % 256 : Nat) : Int) := by rw [IntKind.wrap_u8']; omega
          have bC := bP.c0
          have hne8 := bP.ne hown8'
          have HL := Lib.hid hlen8
          have hn8 : l8.length + 1 ≤ 140737488355328 := by omega
          have hn9 : (l8 ++ [x0.size % 256]).length + x0.size ≤ 140737488355328 := by rw [List.length_append]; simp only [List.length_cons, List.length_nil]; omega
          have hsb : wo.heap.size ≤ ((wr.alloc (.cells #[.string x0, .string x1] 38)).alloc (.cells #[.int .u8 ((x0.size : Int) % 256)] 5)).heap.size := by simp; omega
          clear hown8 hbq
          go_wp2_with fail
          go_region_held_law (fun w' => w'.cell? ⟨wr.heap.size, 0, none⟩ = some (.string x0) ∧ BoxP w' wr.heap.size x0 x1) (first
              | exact BoxP.two bP
              | (go_split_ands; exact BoxP.two (BoxP.alloc (by assumption) _))
              | (go_split_ands; exact BoxP.besides (by assumption) hne8 hg1)
              | (go_split_ands; exact BoxP.besides (by assumption) (BoxP.ne (by assumption) hown1) hg2))
            (first
              | (refine step_bytes (by rfl) _ _ (by rfl) (by rfl) (Own.alloc hown8' _) _ 1 1 [x0.size % 256] (by rfl) (by rfl) (cells_byte (wr.alloc (.cells #[.string x0, .string x1] 38)) _ (x0.size % 256) (by simp)) hn8 hsb ?_; intro v1 w1 hown1 hg1)
              | (refine step_text (by rfl) _ _ (by rfl) (by rfl) hown1 x0 (by rfl) hn9 (Nat.le_trans hsb hg1.size) ?_; intro v2 w2 hown2 hg2))
          have bPd : BoxP ((wr.alloc (.cells #[.string x0, .string x1] 38)).alloc (.cells #[.int .u8 ((x0.size : Int) % 256)] 5)).drew wr.heap.size x0 x1 := BoxP.alloc bP (.cells #[.int .u8 ((x0.size : Int) % 256)] 5)
          have hOd : OwnB ((wr.alloc (.cells #[.string x0, .string x1] 38)).alloc (.cells #[.int .u8 ((x0.size : Int) % 256)] 5)).drew wo.heap.size _ l8 := Own.alloc hown8' (.cells #[.int .u8 ((x0.size : Int) % 256)] 5)
          have bP1 := (BoxP.besides bPd hne8 hg1).2
          have bP2 := (BoxP.besides bP1 (BoxP.ne bP1 hown1) hg2).2
          have hsb1 := Nat.le_trans hsb hg1.size
          have hsb2 := Nat.le_trans hsb1 hg2.size
          have hB1 := OwnB.below hOd hsb hg1
          have hB2 := OwnB.below hown1 hsb1 hg2
          have hbk := (hb8.alloc hbz8 (.cells #[.int .u8 ((x0.size : Int) % 256)] 5)).drew.trans (hB1.trans hB2)
          have hn2 : (l8 ++ [x0.size % 256] ++ bytesN x0).length + 4 ≤ 140737488355328 := by simp only [List.length_append, List.length_cons, List.length_nil, bytesN_length]; omega
          have c1 := bP2.c1
          clear hown8' hOd hown1 hg1 hg2 hB1 hB2 bP bPd bP1 bC hb8 hsb
          go_wp2_with fail
          refine (append32_any wo.heap.size _ _ x1.size (by omega) w2 hown2 hsb2 hn2).mono ?_
          rintro e w3 ⟨v3, rfl, hown3, hg3⟩
          have bP3 := (BoxP.besides bP2 (BoxP.ne bP2 hown2) hg3).2
          have c3' := bP3.c1
          have hbk3 := hbk.trans (OwnB.below hown2 hsb2 hg3)
          have hsb3 := hbk3.size
          clear hown2 hg3 c1 bP2 hbk hsb2
          go_wp2_with fail
          have hcl := crcL_lt (bytesN x1) (bytesN_lt x1)
          have HE : Hid (l8 ++ [x0.size % 256] ++ bytesN x0 ++ put32 x1.size ++ put32 (crcL (bytesN x1)) = l8 ++ dirOf (x0, x1)) := Lib.hid (by simp [dirOf])
          have hn3 : (l8 ++ [x0.size % 256] ++ bytesN x0 ++ put32 x1.size).length + 4 ≤ 140737488355328 := by simp only [List.length_append, List.length_cons, List.length_nil, bytesN_length, put32]; omega
          refine (checksum_any x1 w3 (by omega)).mono ?_
          rintro e w4 ⟨rfl, hb4⟩
          have hown4 := Own.over hown3 hb4
          have hbk4 := hbk3.trans (hb4.mono hsb3)
          have hsb4 := hbk4.size
          clear hown3 hb4 hbk3 hsb3 c3' bP3
          obtain ⟨z, hz⟩ : ∃ z, z = crcL (bytesN x1) := ⟨_, rfl⟩
          rw [← hz] at HE hcl ⊢
          clear hz
          go_wp2_with fail
          refine (append32_any wo.heap.size _ _ z hcl w4 hown4 hsb4 hn3).mono ?_
          rintro e w5 ⟨v5, rfl, hown5, hg5⟩
          have hbk5 := hbk4.trans (OwnB.below hown4 hsb4 hg5)
          clear hown4 hg5 hbk4 hsb4
          go_wp2_with fail
          rw [HE.out] at hown5
          have hl5 : (l8 ++ dirOf (x0, x1)).length ≤ (k + 1) * 1048600 := by rw [List.length_append, dirOf_length]; simp only; omega
          go_roundw
          case rel => exact ⟨k + 1, l8 ++ dirOf (x0, x1), by omega, by go_num, hown5, hl5, Lib.hid HT.out.symm, hbk5⟩
          case measure => simp [intOf]; omega
        · have HD : Hid (l8 = dirL ps) := Lib.hid (by rw [HL8.out, List.take_of_length_le (by omega)])
          have hl8 : l8.length ≤ 67110400 := by omega
          have hcv := conv35
          have wl32 : IntKind.u32.wrap (l8.length : Int) = (l8.length : Int) := wrap_u32 _ (by omega)
          have wx32 := xor_len l8.length (by omega)
          have hlx : ones ^^^ l8.length < 4294967296 := by simpa using Nat.xor_lt_two_pow (n := 32) (show ones < 2 ^ 32 by decide) (show l8.length < 2 ^ 32 by omega)
          clear HL8 hlen8
          obtain ⟨D, dc, rfl, hdc1, hdc2⟩ := Own.shape hown8
          have hmc : ∀ (j : Nat) (u : Value), ([79, 66, 80, 49].flatMap encB)[j]? = some u → (wr.alloc (.cells #[.int .u8 79, .int .u8 66, .int .u8 80, .int .u8 49] 5 (4, 5))).cell? ((⟨wr.heap.size, 0, none⟩ : Addr).add j) = some u := fun j u hj => by
            rw [addr_add, Nat.zero_add]
            exact (World.cell?_alloc_mark wr #[.int .u8 79, .int .u8 66, .int .u8 80, .int .u8 49] 5 (4, 5) j).trans (by simpa [encB] using hj)
          have hd0 := Own.alloc hown8 (.cells #[.int .u8 79, .int .u8 66, .int .u8 80, .int .u8 49] 5 (4, 5))
          have hb0 := hbq.alloc hbqz (.cells #[.int .u8 79, .int .u8 66, .int .u8 80, .int .u8 49] 5 (4, 5))
          have hb0z := hb0.size
          have HAP := Lib.hid (OwnB.apart hown8 (base2 := (wr.alloc (.cells #[.int .u8 79, .int .u8 66, .int .u8 80, .int .u8 49] 5 (4, 5))).heap.size) (by simp))
          clear hown8 hbq
          go_wp2_with fail
          refine (append32_full _ [79, 66, 80, 49] l8.length (by omega) _ hmc (by simp)).mono ?_
          rintro e w1 ⟨v1, rfl, hown1, hk1⟩
          have hd1 := Own.over hd0 hk1
          have hb1 := hb0.trans (hk1.mono hb0z)
          have hb1z := hb1.size
          have hz1 := hk1.size
          have hwz : wr.heap.size < (wr.alloc (.cells #[.int .u8 79, .int .u8 66, .int .u8 80, .int .u8 49] 5 (4, 5))).heap.size := by simp
          clear hd0 hb0 hk1
          go_wp2_with fail
          refine (append32_any _ _ _ (ones ^^^ l8.length) hlx w1 hown1 hz1 (by simp [put32])).mono ?_
          rintro e w2 ⟨v2, rfl, hown2, hg2⟩
          have hd2 := Own.kept hd1 hg2 (HAP.out _ _ _ hown1)
          have hz2 := Nat.le_trans hz1 hg2.size
          have hb2 := hb1.trans ((OwnB.below hown1 hz1 hg2).mono (by omega))
          have hle2 : ([79, 66, 80, 49] ++ put32 l8.length ++ put32 (ones ^^^ l8.length)).length + l8.length ≤ 140737488355328 := by simp [put32]; omega
          have HH : Hid ([79, 66, 80, 49] ++ put32 l8.length ++ put32 (ones ^^^ l8.length) ++ l8 = headL ps) := Lib.hid (by rw [HD.out]; rfl)
          have hhl : (headL ps).length = 12 + l8.length := by rw [HD.out]; exact headL_len ps
          clear hd1 hb1 hb1z hz1 hown1 hg2
          go_wp2_with (at_builtin; refine wpList_own rfl _ _ rfl rfl hown2 rfl hd2 hle2 hz2 ?_; intro v3 w3 hown3 hg3; have hh3 := hown3; rw [HH.out] at hh3; have hcs := OwnB.str hh3 (headL_ne ps) (headL_lt ps))
          have hz3 := Nat.le_trans hz2 hg3.size
          have hb3 := hb2.trans ((OwnB.below hown2 hz2 hg3).mono (by omega))
          have hs0 := ofN_size (headL ps)
          have hbn := bytesN_ofN (headL_lt ps)
          obtain ⟨sv, hsv⟩ : ∃ sv, sv = ofN (headL ps) := ⟨_, rfl⟩
          rw [← hsv] at hs0 hbn ⊢
          clear hsv hown3 hown2 hd2 hg3 hb2 hz2 hcs
          refine (checksum_any sv w3 (by omega)).mono ?_
          rw [hbn]
          rintro e w4 ⟨rfl, hb4⟩
          have hown4 := Own.over hh3 hb4
          have hz4 := Nat.le_trans hz3 hb4.size
          have hb4' := hb3.trans (hb4.mono (by omega))
          have hcl := crcL_lt (headL ps) (headL_lt ps)
          have HZ : Hid (headL ps ++ put32 (crcL (headL ps)) ++ dataL ps = encL ps) := Lib.hid rfl
          obtain ⟨z, hz⟩ : ∃ z, z = crcL (headL ps) := ⟨_, rfl⟩
          rw [← hz] at hcl HZ ⊢
          clear hz hh3 hb3 hz3 hb4
          have hle4 : (headL ps).length + 4 ≤ 140737488355328 := by omega
          go_wp2_with fail
          refine (append32_any _ _ _ z hcl w4 hown4 hz4 hle4).mono ?_
          rintro e w5 ⟨v5, rfl, hown5, hg5⟩
          have hb5 := hb4'.trans ((OwnB.below hown4 hz4 hg5).mono (by omega))
          have hown6 := Own.lower hown5 (base' := wo.heap.size) (by omega)
          have hl6 : (headL ps ++ put32 z).length ≤ 67110416 := by rw [List.length_append, hhl]; simp only [put32, List.length_cons, List.length_nil]; omega
          clear hown4 hown5 hg5 hz4 hb4' hmc
          go_wp2_with fail
          go_loopw [11, 91] (fun dv iv wq => ∃ (k : Nat) (l9 : List Nat), k ≤ ps.length ∧ iv = .int .i64 k ∧ OwnB wq wo.heap.size dv l9 ∧ l9.length ≤ 67110416 + k * 4194304 ∧ Hid (l9 = headL ps ++ put32 z ++ dataL (ps.take k)) ∧ Below wo.heap.size wo wq) (fun _ iv _ => ps.length - (intOf iv).toNat)
          case atStart => exact ⟨0, _, Nat.zero_le _, rfl, hown6, by omega, Lib.hid (by simp [dataL]), hb5⟩
          case round =>
            clear hown6 hb5 hl6
            obtain ⟨k9, l9, hk9, rfl, hown9, hlen9, HL9, hb9⟩ := hrel
            have hb9z := hb9.size
            by_cases hlt9 : k9 < ps.length
            · obtain ⟨b, o, rfl, hbB, g1, g2⟩ := (HP3.out.below hb9) k9 hlt9
              obtain ⟨hn1, hn2⟩ := HSM.out ps[k9] (List.getElem_mem _)
              have HT : Hid (headL ps ++ put32 z ++ dataL (ps.take (k9 + 1)) = l9 ++ bytesN ps[k9].2) := Lib.hid (by rw [List.take_succ_eq_append_getElem hlt9, HL9.out]; unfold dataL; rw [List.flatMap_append]; simp)
              obtain ⟨x, hx⟩ : ∃ x, x = ps[k9] := ⟨_, rfl⟩
              rw [← hx] at g1 g2 hn1 hn2 HT
              clear hx
              obtain ⟨x0, x1⟩ := x
              simp only at g1 g2 hn1 hn2 HT
              have bP := heap_alloc_new wr (.cells #[.string x0, .string x1] 38)
              have bP' : BoxP (wr.alloc (.cells #[.string x0, .string x1] 38)) wr.heap.size x0 x1 := bP
              have c1 := bP'.c1
              have hown9' := Own.alloc hown9 (.cells #[.string x0, .string x1] 38)
              have hb9' := hb9.alloc hb9z (.cells #[.string x0, .string x1] 38)
              have hb9z' := hb9'.size
              have hle9 : l9.length + x1.size ≤ 140737488355328 := by omega
              have hl10 : (l9 ++ bytesN x1).length ≤ 67110416 + (k9 + 1) * 4194304 := by rw [List.length_append, bytesN_length]; omega
              clear hown9 hb9 bP bP'
              go_wp2_with (at_builtin; refine wpList_text rfl _ _ rfl wo.heap.size _ l9 rfl hown9' x1 rfl hle9 hb9z' ?_; intro v' w' hown' hg)
              go_roundw
              case rel => exact ⟨k9 + 1, l9 ++ bytesN x1, by omega, by go_num, hown', hl10, Lib.hid HT.out.symm, hb9'.trans (OwnB.below hown9' hb9z' hg)⟩
              case measure => simp [intOf]; omega
            · have HE : Hid (l9 = encL ps) := Lib.hid (by rw [HL9.out, List.take_of_length_le (by omega)]; exact HZ.out)
              clear HL9
              rw [HE.out] at hown9
              have hcs := OwnB.str hown9 (encL_ne ps) (encL_lt ps)
              have hfin := hb3'.trans (hb9.mono hz3)
              have hbn2 := bytesN_ofN (encL_lt ps)
              obtain ⟨sv2, hsv2⟩ : ∃ sv2, sv2 = ofN (encL ps) := ⟨_, rfl⟩
              rw [← hsv2] at hcs hbn2
              clear hsv2
              go_wp2_with fail
              go_ret2
              exact ⟨⟨sv2, ps, rfl, HSP.out.1, HSP.out.2, hbn2⟩, hfin⟩
end Go.Proofs.Ytdnaifkcogadkaa
