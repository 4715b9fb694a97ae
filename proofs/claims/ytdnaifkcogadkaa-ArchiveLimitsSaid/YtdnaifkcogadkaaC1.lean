/- Walk: the table of checksums of single bytes. -/
import Derived.Test.YtdnaifkcogadkaaProg
import Derived.Test.YtdnaifkcogadkaaLib
import Derived.Test.YtdnaifkcogadkaaPl
import Derived.Deep.OwnRows
import Derived.Laws.BitsAllLaws
import Derived.Great.Walk
import Derived.Laws.Rows
import Derived.Laws.CopyOwn
namespace Go.Proofs.Ytdnaifkcogadkaa
open Go.RowKit

theorem zero71 : Try.zeroCells71 = Array.replicate 256 (.int .u32 0) := by kernel_rfl
theorem z256_row (w : World) : (w.alloc (.cells Try.zeroCells71 71)).rowIs w.heap.size 71 256 (fun _ => .int .u32 0) :=
  ⟨_, heap_alloc_new _ _, by simp [zero71], fun i hi => by simp [zero71, hi]⟩
theorem info71 : (Try.prog.info? 71).map (·.size) = some 256 := by kernel_rfl

def tabV (k : Nat) (j : Nat) : Value := .int .u32 (if j < k then crcTab j else 0 : Nat)
theorem and_one {n : Nat} (hn : n < 4294967296) : bits BinOp.and IntKind.u32 (n : Int) 1 = ((n % 2 : Nat) : Int) := by
  have := u32_and_nat n 1 hn (by omega)
  rw [Nat.and_one_is_mod] at this
  exact this
theorem step_odd {n : Nat} (hn : n < 4294967296) (hp : n % 2 = 1) : bits BinOp.xor IntKind.u32 ((n : Int) / 2) 3988292384 = ((crcStep n : Nat) : Int) := by
  have := u32_xor_nat (n / 2) 3988292384 (by omega) (by omega)
  rw [Int.natCast_ediv] at this
  unfold crcStep
  rw [if_pos hp]
  exact this
theorem step_even {n : Nat} (hp : ¬ n % 2 = 1) : (n : Int) / 2 = ((crcStep n : Nat) : Int) := by
  unfold crcStep
  rw [if_neg hp, Int.natCast_ediv]
  rfl
theorem one_cells {cs : Array Value} (hs : cs.size = 256) (h : ∀ j, j < 256 → cs[j]? = some (.int .u32 (crcTab j))) : cs.all (·.oneCell') = true := by
  rw [Array.all_eq_true]
  intro i hi
  have := h i (by omega)
  rw [Array.getElem?_eq_getElem hi] at this
  injection this with this
  rw [this]
  rfl
set_option maxRecDepth 100000 in
set_option maxHeartbeats 2000000 in
theorem table_any (w : World) : Calls Try.prog 40 #[] w fun e w' => (∃ cs : Array Value, e = .returned (.agg cs) ∧ cs.size = 256 ∧ ∀ j, j < 256 → cs[j]? = some (.int .u32 (crcTab j))) ∧ Below w.heap.size w w' := by
  go_enter Try.func40, Try.ntmps40
  go_wp2_with fail
  have r0 : ((w.alloc (.cells Try.zeroCells71 71)).alloc (.cells Try.zeroCells71 71)).rowIs (w.heap.size + 1) 71 256 (tabV 0) := by
    have := z256_row (w.alloc (.cells Try.zeroCells71 71))
    rw [World.size_alloc] at this
    exact this.congr (fun j _ => by simp [tabV])
  have q0 : ((w.alloc (.cells Try.zeroCells71 71)).alloc (.cells Try.zeroCells71 71)).heap[w.heap.size]? = some (.cells Try.zeroCells71 71 (0, 0)) := (Below.heap_alloc _ _ _ (by simp)).trans (heap_alloc_new _ _)
  have b0 : Below w.heap.size w ((w.alloc (.cells Try.zeroCells71 71)).alloc (.cells Try.zeroCells71 71)) := ((Below.refl _ w).alloc (Nat.le_refl _) _).alloc (by simp) _
  obtain ⟨W0, hW0⟩ : ∃ W0, W0 = (w.alloc (.cells Try.zeroCells71 71)).alloc (.cells Try.zeroCells71 71) := ⟨_, rfl⟩
  rw [← hW0] at r0 q0 b0 ⊢
  clear hW0
  go_loopw [5] (fun iv wr => ∃ k : Nat, k ≤ 256 ∧ iv = .int .i64 k ∧ wr.rowIs (w.heap.size + 1) 71 256 (tabV k) ∧ wr.heap[w.heap.size]? = some (.cells Try.zeroCells71 71 (0, 0)) ∧ Below w.heap.size w wr) (fun iv _ => 256 - (intOf iv).toNat)
  case atStart => exact ⟨0, Nat.zero_le _, rfl, r0, q0, b0⟩
  case round =>
    obtain ⟨k, hk, rfl, hrow, hq, hb⟩ := hrel
    have HR := Lib.hid hrow
    have HQ := Lib.hid hq
    clear hrow hq
    by_cases hlt : k < 256
    · obtain ⟨wq, hwq⟩ : ∃ wq, wq = wr := ⟨_, rfl⟩
      rw [← hwq] at HR HQ hb ⊢
      clear hwq
      go_wp2_with fail
      go_loop [3, 10] (fun xv jv => ∃ j n : Nat, j ≤ 8 ∧ n < 4294967296 ∧ jv = .int .i64 j ∧ xv = .int .u32 n ∧ Hid (crcSteps (8 - j) n = crcTab k)) (fun _ jv => 8 - (intOf jv).toNat)
      case atStart => exact ⟨0, k, by omega, by omega, rfl, rfl, Lib.hid rfl⟩
      case round =>
        obtain ⟨j, n, hj, hn, rfl, rfl, HS⟩ := hrel
        by_cases hj8 : j < 8
        · have HS2 : Hid (crcSteps (8 - (j + 1)) (crcStep n) = crcTab k) := Lib.hid (by rw [← HS.out, show 8 - j = (8 - (j + 1)) + 1 by omega]; rfl)
          have hlt2 := crcStep_lt hn
          have HB := Lib.hid (and_one hn)
          by_cases hp : n % 2 = 1
          · have he : (bits BinOp.and IntKind.u32 (n : Int) 1 == 1) = true := by rw [HB.out]; simp; omega
            have HX : Hid (bits BinOp.xor IntKind.u32 ((n : Int) / 2) 3988292384 = ((crcStep n : Nat) : Int)) := Lib.hid (step_odd hn hp)
            clear hp
            go_wp2_with fail
            go_round
            case rel => exact ⟨j + 1, crcStep n, by omega, hlt2, by go_num, by rw [HX.out], HS2⟩
            case measure => simp [intOf]; omega
          · have he : (bits BinOp.and IntKind.u32 (n : Int) 1 == 1) = false := by rw [HB.out]; simp; omega
            have HX : Hid ((n : Int) / 2 = ((crcStep n : Nat) : Int)) := Lib.hid (step_even hp)
            clear hp
            go_wp2_with fail
            go_round
            case rel => exact ⟨j + 1, crcStep n, by omega, hlt2, by go_num, by rw [HX.out], HS2⟩
            case measure => simp [intOf]; omega
        · have c0 := HR.out.cell (i := k) hlt
          have f0 := HR.out.frozen k
          have hj' : j = 8 := by omega
          have HK : Hid (n = crcTab k) := Lib.hid (by have := HS.out; rw [hj'] at this; exact this)
          simp only [tabV] at c0
          clear hj'
          go_wp2_with fail
          go_roundw
          case rel =>
            refine ⟨k + 1, by omega, by go_num, ?_, ?_, hb.setCell (by show w.heap.size ≤ w.heap.size + 1; omega) _⟩
            · refine (HR.out.set k _).congr (fun i hi => ?_)
              unfold tabV
              by_cases hik : i = k
              · subst hik; simp [HK.out]
              · rw [if_neg hik]
                congr 2
                by_cases h2 : i < k
                · rw [if_pos h2, if_pos (by omega)]
                · rw [if_neg h2, if_neg (by omega)]
            · exact (Below.heap_setCell _ _ _ _ (by show w.heap.size ≠ w.heap.size + 1; omega)).trans HQ.out
          case measure => simp [intOf]; omega
    · obtain ⟨cs, hcs, hsz, hget⟩ := HR.out
      have HC := Lib.hid hget
      have hk' : k = 256 := by omega
      have HG : Hid (∀ j, j < 256 → cs[j]? = some (.int .u32 (crcTab j))) := Lib.hid fun j hj => by
        have := hget j hj
        unfold tabV at this
        rw [if_pos (by omega)] at this
        exact this
      clear hget hk' HC
      have Hcs := Lib.hid hcs
      have Hsz := Lib.hid hsz
      clear hcs hsz
      go_wp2_with (first | refine wpList_load_row rfl 71 _ rfl (w.heap.size + 1) rfl 71 cs (0, 0) _ Hcs.out Try.underlying71 rfl (by rw [info71, Hsz.out]) ?_ | refine wpList_store_row rfl 71 _ _ rfl w.heap.size cs rfl rfl 71 _ HQ.out (by rw [info71, Hsz.out]) (by rw [zero71, Hsz.out]; simp) (one_cells Hsz.out HG.out) ?_)
      refine bodyPost_ret (v := .agg cs) (results_cell_row rfl _ _ w.heap.size 71 cs (0, 0) _ rfl (setRow_heap _ _ _ _ _ _ HQ.out) Try.underlying71 rfl (by rw [info71, Hsz.out])) rfl ?_
      exact ⟨⟨cs, rfl, Hsz.out, HG.out⟩, below_setRow hb (Nat.le_refl _) _⟩

def bytesN (s : ByteArray) : List Nat := s.data.toList.map UInt8.toNat
theorem bytesN_lt (s : ByteArray) : ∀ b ∈ bytesN s, b < 256 := fun b hb => by
  obtain ⟨c, _, rfl⟩ := List.mem_map.1 hb
  exact c.toNat_lt
theorem bytesN_length (s : ByteArray) : (bytesN s).length = s.size := by simp [bytesN]
theorem bytesN_drop (s : ByteArray) (k : Nat) (h : k < s.size) : (bytesN s).drop k = s[k].toNat :: (bytesN s).drop (k + 1) := by
  rw [List.drop_eq_getElem_cons (by rw [bytesN_length]; exact h)]
  congr 1
  simp only [bytesN, List.getElem_map]
  rfl
theorem crcF_cons (b x : Nat) (l : List Nat) : crcF x (b :: l) = crcF (crcB x b) l := by unfold crcF; rw [List.foldl_cons]

theorem xor_u8 (x b : Nat) (hb : b < 256) : bits BinOp.xor IntKind.u8 ((x : Int) % 256) (b : Int) = (((x ^^^ b) % 256 : Nat) : Int) := by
  have h := u8_xor_nat (x % 256) b (by omega) hb
  have e : (x ^^^ b) % 256 = x % 256 ^^^ b := by
    have := Nat.xor_mod_two_pow (a := x) (b := b) (n := 8)
    rw [show (2 : Nat) ^ 8 = 256 from rfl, Nat.mod_eq_of_lt hb] at this
    exact this
  rw [e, ← h]
  rfl
theorem xor_u32 {x b : Nat} (hx : x < 4294967296) (hb : b < 256) : bits BinOp.xor IntKind.u32 ((x : Int) / 256) ((crcTab ((x ^^^ b) % 256) : Nat) : Int) = ((crcB x b : Nat) : Int) := by
  have h1 : crcTab ((x ^^^ b) % 256) < 4294967296 := crcSteps_lt 8 (by omega)
  have h := u32_xor_nat (x / 256) (crcTab ((x ^^^ b) % 256)) (by omega) h1
  rw [← crcT_eq x b hb]
  exact h

set_option maxRecDepth 100000 in
set_option maxHeartbeats 2000000 in
theorem checksum_any (s : ByteArray) (w : World) (hs : s.size ≤ 9223372036854775807) :
    Calls Try.prog 19 #[.string s] w fun e w' => e = .returned (.int .u32 (crcL (bytesN s))) ∧ Below w.heap.size w w' := by
  go_enter Try.func19, Try.ntmps19
  go_wp2_with fail
  refine (table_any w).mono ?_
  rintro e w1 ⟨⟨cs, rfl, hsz, hget⟩, hb1⟩
  have Hsz := Lib.hid hsz
  have HG := Lib.hid hget
  clear hsz hget
  go_wp2_with (first | refine wpList_store_row rfl 71 _ _ rfl w1.heap.size cs rfl rfl 71 _ (heap_alloc_new _ _) (by rw [info71, Hsz.out]) (by rw [zero71, Hsz.out]; simp) (one_cells Hsz.out HG.out) ?_)
  have hT := setRow_heap (w1.alloc (.cells Try.zeroCells71 71)) w1.heap.size _ cs 71 (0, 0) (heap_alloc_new _ _)
  have hbT : Below w.heap.size w ((w1.alloc (.cells Try.zeroCells71 71)).setRow w1.heap.size cs) := below_setRow (hb1.alloc hb1.size _) hb1.size _
  obtain ⟨W0, hW0⟩ : ∃ W0, W0 = (w1.alloc (.cells Try.zeroCells71 71)).setRow w1.heap.size cs := ⟨_, rfl⟩
  rw [← hW0] at hT hbT ⊢
  have HT := Lib.hid hT
  clear hW0 hT
  go_loop [4, 9] (fun xv iv => ∃ k x : Nat, k ≤ s.size ∧ x < 4294967296 ∧ iv = .int .i64 k ∧ xv = .int .u32 x ∧ Hid (crcF x ((bytesN s).drop k) = crcF ones (bytesN s))) (fun _ iv => s.size - (intOf iv).toNat)
  case atStart => exact ⟨0, ones, Nat.zero_le _, by unfold ones; omega, rfl, rfl, Lib.hid rfl⟩
  case round =>
    obtain ⟨k, x, hk, hx, rfl, rfl, HS⟩ := hrel
    by_cases hlt : k < s.size
    · have hb := s[k].toNat_lt
      have HD : Hid (crcF (crcB x s[k].toNat) ((bytesN s).drop (k + 1)) = crcF ones (bytesN s)) := Lib.hid (by have := HS.out; rw [bytesN_drop s k hlt, crcF_cons] at this; exact this)
      obtain ⟨y, hy⟩ : ∃ y, y = (x ^^^ s[k].toNat) % 256 := ⟨_, rfl⟩
      have e1 : bits BinOp.xor IntKind.u8 ((x : Int) % 256) (s[k].toNat : Int) = (y : Int) := by rw [hy]; exact xor_u8 x _ hb
      have hy256 : y < 256 := by omega
      have HX := Lib.hid (xor_u32 (b := s[k].toNat) hx hb)
      have hlt' := crcB_lt hx hb
      rw [← hy] at HX
      obtain ⟨t, ht⟩ : ∃ t, t = crcTab y := ⟨_, rfl⟩
      have c1 : W0.cell? ⟨w1.heap.size, y, none⟩ = some (.int .u32 t) := by rw [blk_cell HT.out, ht]; exact HG.out y hy256
      rw [← ht] at HX
      clear hy ht
      go_wp2_with fail
      go_round
      case rel => exact ⟨k + 1, crcB x s[k].toNat, by omega, hlt', by go_num, by rw [HX.out], HD⟩
      case measure => simp [intOf]; omega
    · have HE : Hid (bits BinOp.xor IntKind.u32 IntKind.u32.max (x : Int) = ((crcL (bytesN s) : Nat) : Int)) := Lib.hid (by
        have := HS.out
        rw [List.drop_of_length_le (by rw [bytesN_length]; omega)] at this
        have h2 : x = crcF ones (bytesN s) := by unfold crcF at this ⊢; simpa using this
        have h3 := u32_xor_nat ones x (by unfold ones; omega) hx
        unfold crcL
        rw [← h2]
        exact h3)
      go_wp2_with fail
      go_ret
      exact ⟨by rw [HE.out]; rfl, hbT⟩

theorem xor_in {x b : Nat} (hx : x < 4294967296) (hb : b < 256) : bits BinOp.xor IntKind.u32 (x : Int) (b : Int) = ((x ^^^ b : Nat) : Int) ∧ x ^^^ b < 4294967296 :=
  ⟨u32_xor_nat x b hx (by omega), xor32_lt hx (by omega)⟩
set_option maxRecDepth 100000 in
set_option maxHeartbeats 2000000 in
theorem sum_any (s : ByteArray) (w : World) (hs : s.size ≤ 9223372036854775807) :
    Calls Try.prog 20 #[.string s] w fun e w' => e = .returned (.int .u32 (crcL (bytesN s))) ∧ w = w' := by
  go_enter Try.func20, Try.ntmps20
  go_wp2_with fail
  go_loop [3, 4] (fun xv iv => ∃ k x : Nat, k ≤ s.size ∧ x < 4294967296 ∧ iv = .int .i64 k ∧ xv = .int .u32 x ∧ Hid (crcF x ((bytesN s).drop k) = crcF ones (bytesN s))) (fun _ iv => s.size - (intOf iv).toNat)
  case atStart => exact ⟨0, ones, Nat.zero_le _, by unfold ones; omega, rfl, rfl, Lib.hid rfl⟩
  case round =>
    obtain ⟨k, x, hk, hx, rfl, rfl, HS⟩ := hrel
    by_cases hlt : k < s.size
    · have hb := s[k].toNat_lt
      have HD : Hid (crcF (crcB x s[k].toNat) ((bytesN s).drop (k + 1)) = crcF ones (bytesN s)) := Lib.hid (by have := HS.out; rw [bytesN_drop s k hlt, crcF_cons] at this; exact this)
      obtain ⟨z, hz⟩ : ∃ z, z = x ^^^ s[k].toNat := ⟨_, rfl⟩
      obtain ⟨e1, hz1⟩ := xor_in (b := s[k].toNat) hx hb
      rw [← hz] at e1 hz1
      have HZ : Hid (crcB x s[k].toNat = crcSteps 8 z) := Lib.hid (by rw [hz]; rfl)
      have hlt' := crcB_lt hx hb
      clear hz
      go_wp2_with fail
      go_loop [3, 5] (fun xv jv => ∃ j n : Nat, j ≤ 8 ∧ n < 4294967296 ∧ jv = .int .i64 j ∧ xv = .int .u32 n ∧ Hid (crcSteps (8 - j) n = crcB x s[k].toNat)) (fun _ jv => 8 - (intOf jv).toNat)
      case atStart => exact ⟨0, z, by omega, hz1, rfl, rfl, Lib.hid HZ.out.symm⟩
      case round =>
        obtain ⟨j, n, hj, hn, rfl, rfl, HS8⟩ := hrel
        by_cases hj8 : j < 8
        · have HS2 : Hid (crcSteps (8 - (j + 1)) (crcStep n) = crcB x s[k].toNat) := Lib.hid (by rw [← HS8.out, show 8 - j = (8 - (j + 1)) + 1 by omega]; rfl)
          have hlt2 := crcStep_lt hn
          by_cases hp : n % 2 = 1
          · have he : ((n : Int) % 2 == 1) = true := by simp; omega
            have HX : Hid (bits BinOp.xor IntKind.u32 ((n : Int) / 2) 3988292384 = ((crcStep n : Nat) : Int)) := Lib.hid (step_odd hn hp)
            clear hp
            go_wp2_with fail
            go_round
            case rel => exact ⟨j + 1, crcStep n, by omega, hlt2, by go_num, by rw [HX.out], HS2⟩
            case measure => simp [intOf]; omega
          · have he : ((n : Int) % 2 == 1) = false := by simp; omega
            have HX : Hid ((n : Int) / 2 = ((crcStep n : Nat) : Int)) := Lib.hid (step_even hp)
            clear hp
            go_wp2_with fail
            go_round
            case rel => exact ⟨j + 1, crcStep n, by omega, hlt2, by go_num, by rw [HX.out], HS2⟩
            case measure => simp [intOf]; omega
        · have HN : Hid (n = crcB x s[k].toNat) := Lib.hid (by have := HS8.out; rw [show 8 - j = 0 by omega] at this; exact this)
          go_wp2_with fail
          go_round
          case rel => exact ⟨k + 1, crcB x s[k].toNat, by omega, hlt', by go_num, by rw [HN.out], HD⟩
          case measure => simp [intOf]; omega
    · have HE : Hid (bits BinOp.xor IntKind.u32 IntKind.u32.max (x : Int) = ((crcL (bytesN s) : Nat) : Int)) := Lib.hid (by
        have := HS.out
        rw [List.drop_of_length_le (by rw [bytesN_length]; omega)] at this
        have h2 : x = crcF ones (bytesN s) := by unfold crcF at this ⊢; simpa using this
        have h3 := u32_xor_nat ones x (by unfold ones; omega) hx
        unfold crcL
        rw [← h2]
        exact h3)
      go_wp2_with fail
      go_ret
      exact ⟨by rw [HE.out]; rfl, rfl⟩
end Go.Proofs.Ytdnaifkcogadkaa
