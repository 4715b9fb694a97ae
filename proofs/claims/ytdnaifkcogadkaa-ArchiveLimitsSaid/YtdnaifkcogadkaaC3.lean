/- Walks: numbers of four bytes; a part's check. -/
import Derived.Test.YtdnaifkcogadkaaC2
import Derived.Lib.AppendStr
import Derived.Laws.IdiomStrings
import Derived.IntWalk
import Derived.Deep.QuietTactic
import Derived.BigQuiet
namespace Go.Proofs.Ytdnaifkcogadkaa
open Go.RowKit

def encB (c : Nat) : List Value := [.int .u8 c]
theorem encB_length (c : Nat) : (encB c).length = 1 := rfl
abbrev OwnB := Own encB 1 5
def put32 (n : Nat) : List Nat := [n / 16777216 % 256, n / 65536 % 256, n / 256 % 256, n % 256]
theorem info5 : (Try.prog.info? 5).map (fun i => (i.zero, i.size, i.bytes)) = some (some (.int .u8 0), 1, 1) := by kernel_rfl

/-- 'out = append(out, xs...)', out a slice of bytes of the call's own. -/
theorem wpList_bytes {w : World} {ops : Array Oper} {rest : List Oper} {o : Oper} {a : Act} {Q : Exit → Act → World → Prop} (hgd : o.guard = none) (s x : Operand)
    (ho : o.op = .call { callee := .builtin .append, args := #[s, x], argTypes := #[35, 35] })
    (base : Nat) (v : Value) (l : List Nat) (hs : a.eval s = v) (hown : OwnB w base v l)
    (ad : Addr) (m c : Nat) (ys : List Nat) (hx : a.eval x = .slice (some ad) m c) (hm : m = ys.length) (hcell : ∀ j u, (ys.flatMap encB)[j]? = some u → w.cell? (ad.add j) = some u)
    (hlen : l.length + ys.length ≤ 140737488355328) (hbase : base ≤ w.heap.size)
    (h : ∀ v' w', OwnB w' base v' (l ++ ys) → w.grownBy w' v.ownBlock → wpList Try.prog ops Q rest (a.put o.dst v') w') : wpList Try.prog ops Q (o :: rest) a w := by
  obtain ⟨i0, hi, hz0, hz1, hz2⟩ := info_parts info5
  subst hm
  refine wpList_append_own _ hgd s x 35 ho base 5 i0 _ 1 1 Try.underlying35 hi hz0 hz1 hz2 rfl (by decide) v l.length (l.flatMap encB) hs hown ad ys.length c (ys.flatMap encB) hx (by rw [flatMap_length encB_length]) hcell ?_ (by simp only [maxLen]; omega) (by omega) hbase ?_
  · intro u hu
    obtain ⟨y, _, hy⟩ := List.mem_flatMap.1 hu
    simp only [encB, List.mem_singleton] at hy
    subst hy; rfl
  · intro v' w' hown' hg _
    refine h v' w' ?_ hg
    unfold OwnB Own
    rw [List.length_append, List.flatMap_append]
    exact hown'
theorem strCells_eq (s : ByteArray) : Lib.strCells s = (bytesN s).flatMap encB := by
  unfold Lib.strCells bytesN
  rw [List.flatMap_map]
  induction s.data.toList with
  | nil => rfl
  | cons c r ih => simp only [List.map_cons, List.flatMap_cons, ih]; rfl
/-- 'out = append(out, s...)', s a string. -/
theorem wpList_text {w : World} {ops : Array Oper} {rest : List Oper} {o : Oper} {a : Act} {Q : Exit → Act → World → Prop} (hgd : o.guard = none) (sl x : Operand)
    (ho : o.op = .call { callee := .builtin .append, args := #[sl, x], argTypes := #[35, 9] })
    (base : Nat) (v : Value) (l : List Nat) (hs : a.eval sl = v) (hown : OwnB w base v l) (s : ByteArray) (hx : a.eval x = .string s)
    (hlen : l.length + s.size ≤ 140737488355328) (hbase : base ≤ w.heap.size)
    (h : ∀ v' w', OwnB w' base v' (l ++ bytesN s) → w.grownBy w' v.ownBlock → wpList Try.prog ops Q rest (a.put o.dst v') w') : wpList Try.prog ops Q (o :: rest) a w := by
  obtain ⟨i0, hi, hz0, hz1, hz2⟩ := info_parts info5
  refine Lib.wpList_append_own_string _ hgd sl x 35 9 ho base 5 i0 Try.underlying35 Try.underlying9 hi hz0 hz1 hz2 v l.length (l.flatMap encB) hs hown s hx (by simp only [maxLen]; omega) hlen hbase ?_
  intro v' w' hown' hg _
  refine h v' w' ?_ hg
  unfold OwnB Own
  rw [List.length_append, List.flatMap_append, bytesN_length, ← strCells_eq]
  exact hown'

theorem cells_put (w : World) (n : Nat) : ∀ (j : Nat) (u : Value), ((put32 n).flatMap encB)[j]? = some u →
    (w.alloc (.cells #[.int .u8 ((n : Int) / 16777216 % 256), .int .u8 ((n : Int) / 65536 % 256), .int .u8 ((n : Int) / 256 % 256), .int .u8 ((n : Int) % 256)] 5)).cell? ((⟨w.heap.size, 0, none⟩ : Addr).add j) = some u := fun j u hj => by
  rw [addr_add, Nat.zero_add]
  exact cells_new w [.int .u8 ((n : Int) / 16777216 % 256), .int .u8 ((n : Int) / 65536 % 256), .int .u8 ((n : Int) / 256 % 256), .int .u8 ((n : Int) % 256)] 5 j u hj
theorem grownBy_after {w w1 : World} {o : Obj} {r : Option Nat} (h : (w.alloc o).grownBy w1 r) : w.grownBy w1 r :=
  World.grownBy.trans (World.grownBy_alloc w o r) h
def num4 (a b c d : Nat) : Nat := a * 16777216 + b * 65536 + c * 256 + d
abbrev Prt := ByteArray × ByteArray
/-- The error of a part. -/
def chkP (p : Prt) : Int := if nameL (bytesN p.1) = true then if 1048576 < p.2.size then 10 else 0 else 13

set_option maxRecDepth 100000 in
set_option maxHeartbeats 1000000 in
theorem append32_any (base : Nat) (v : Value) (l : List Nat) (n : Nat) (hn : n < 4294967296) (w : World) (hown : OwnB w base v l) (hbase : base ≤ w.heap.size) (hlen : l.length + 4 ≤ 140737488355328) :
    Calls Try.prog 39 #[v, .int .u32 n] w fun e w' => ∃ v', e = .returned v' ∧ OwnB w' base v' (l ++ put32 n) ∧ w.grownBy w' v.ownBlock := by
  have Hn := Lib.hid hn
  have HL := Lib.hid hlen
  clear hn hlen
  go_enter Try.func39, Try.ntmps39
  go_wp2_with (at_builtin; refine wpList_bytes rfl _ _ rfl base _ l rfl (Own.alloc hown _) ⟨w.heap.size, 0, none⟩ 4 4 (put32 n) rfl rfl (cells_put w n) HL.out (by simp; omega) ?_; intro v' w1 hown' hg)
  obtain ⟨A, c, rfl, _, _⟩ := Own.shape hown'
  go_wp2_with fail
  go_ret
  exact ⟨_, rfl, hown', grownBy_after hg⟩

def ofN (l : List Nat) : ByteArray := ⟨(l.map UInt8.ofNat).toArray⟩
theorem bytesN_ofN {l : List Nat} (h : ∀ b ∈ l, b < 256) : bytesN (ofN l) = l := by
  unfold bytesN ofN
  simp only [List.map_map]
  rw [List.map_congr_left (g := id) (fun b hb => ?_), List.map_id]
  simp only [Function.comp_apply, id]
  exact UInt8.toNat_ofNat_of_lt (h b hb)
theorem put32_lt (n : Nat) : ∀ b ∈ put32 n, b < 256 := fun b hb => by
  simp only [put32, List.mem_cons, List.not_mem_nil, or_false] at hb
  omega
theorem run_bytes_str (w : World) (a : Addr) (cap : Nat) (l : List Nat) (hl : ∀ b ∈ l, b < 256) (hc : ∀ j u, (l.flatMap encB)[j]? = some u → w.cell? (a.add j) = some u) :
    (convert 35 9 (.slice (some a) l.length cap)).run Try.prog w = .ok (.string (ofN l)) w := by
  have h := run_convert_bytes_back (P := Try.prog) w 35 9 5 a cap (l.map UInt8.ofNat) Try.underlying35 Try.underlying5 Try.underlying9 (fun j hj => by
    refine hc j _ ?_
    have hj' : j < l.length := by simpa using hj
    have := flatMap_get encB_length l j l[j] (by simp) 0 _ rfl
    rw [Nat.mul_one, Nat.add_zero] at this
    rw [this]
    congr 2
    have e : (l.map UInt8.ofNat)[j] = UInt8.ofNat l[j] := by simp
    have e2 : (UInt8.ofNat l[j]).toNat = l[j] := UInt8.toNat_ofNat_of_lt (hl _ (List.getElem_mem hj'))
    rw [e, e2])
  rw [List.length_map] at h
  exact h

set_option maxRecDepth 100000 in
set_option maxHeartbeats 1000000 in
theorem put_any (n : Nat) (w : World) :
    Calls Try.prog 26 #[.int .u32 n] w fun e w' => ∃ s : ByteArray, e = .returned (.string s) ∧ bytesN s = put32 n ∧ Below w.heap.size w w' := by
  have hconv := run_bytes_str (w.alloc (.cells #[.int .u8 ((n : Int) / 16777216 % 256), .int .u8 ((n : Int) / 65536 % 256), .int .u8 ((n : Int) / 256 % 256), .int .u8 ((n : Int) % 256)] 5)) ⟨w.heap.size, 0, none⟩ 4 (put32 n) (put32_lt n) (cells_put w n)
  have hlen : (put32 n).length = 4 := rfl
  rw [hlen] at hconv
  clear hlen
  go_enter Try.func26, Try.ntmps26
  go_wp2_with fail
  go_ret
  exact ⟨_, rfl, bytesN_ofN (put32_lt n), (Below.refl _ _).alloc (Nat.le_refl _) _⟩

set_option maxRecDepth 100000 in
set_option maxHeartbeats 1000000 in
theorem check_any (nm da : ByteArray) (w : World) (hn : nm.size ≤ 9223372036854775807) (hd : da.size ≤ 9223372036854775807) :
    Calls Try.prog 34 #[.agg #[.string nm, .string da]] w fun e w' => e = .returned (.int .i64 (chkP (nm, da))) ∧ Below w.heap.size w w' := by
  by_cases h1 : nameL (bytesN nm) = true
  · by_cases h2 : 1048576 < da.size
    · have HV : Hid (chkP (nm, da) = 10) := Lib.hid (by simp [chkP, h1, h2])
      have d2 : decide (1048576 < (da.size : Int)) = true := by simp; omega
      have H1 := Lib.hid h1
      clear h1
      go_enter Try.func34, Try.ntmps34
      go_wp2_with fail
      refine (isName_lib nm _ hn).mono ?_
      rw [H1.out]
      rintro e w1 ⟨rfl, rfl⟩
      go_wp2_with fail
      go_ret
      exact ⟨ret_int HV.out.symm, (Below.refl _ _).alloc (Nat.le_refl _) _⟩
    · have HV : Hid (chkP (nm, da) = 0) := Lib.hid (by simp [chkP, h1, h2])
      have d2 : decide (1048576 < (da.size : Int)) = false := by simp; omega
      have H1 := Lib.hid h1
      clear h1
      go_enter Try.func34, Try.ntmps34
      go_wp2_with fail
      refine (isName_lib nm _ hn).mono ?_
      rw [H1.out]
      rintro e w1 ⟨rfl, rfl⟩
      go_wp2_with fail
      go_ret
      exact ⟨ret_int HV.out.symm, (Below.refl _ _).alloc (Nat.le_refl _) _⟩
  · have h1' : nameL (bytesN nm) = false := by simpa using h1
    have HV : Hid (chkP (nm, da) = 13) := Lib.hid (by simp [chkP, h1'])
    have H1 := Lib.hid h1'
    clear h1 h1'
    go_enter Try.func34, Try.ntmps34
    go_wp2_with fail
    refine (isName_lib nm _ hn).mono ?_
    rw [H1.out]
    rintro e w1 ⟨rfl, rfl⟩
    go_wp2_with fail
    go_ret
    exact ⟨ret_int HV.out.symm, (Below.refl _ _).alloc (Nat.le_refl _) _⟩

theorem or_add (i a b : Nat) (h : b < 2 ^ i) : 2 ^ i * a ||| b = 2 ^ i * a + b := (Nat.two_pow_add_eq_or_of_lt h a).symm
theorem or_u32 (i a b c : Nat) (hc : c = 2 ^ i * a) (hb : b < 2 ^ i) (h1 : c < 4294967296) (h2 : b < 4294967296) : bits BinOp.or IntKind.u32 (c : Int) (b : Int) = ((c + b : Nat) : Int) := by
  rw [u32_or_nat c b h1 h2, hc, or_add i a b hb]
theorem wrap_u32 (a : Nat) (h : a < 4294967296) : IntKind.u32.wrap (a : Int) = (a : Int) := by
  rw [IntKind.wrap_u32']; omega
/-- What the reading of four bytes wants to know. -/
structure Four (b0 b1 b2 b3 : Nat) : Prop where
  w0 : IntKind.u32.wrap (b0 : Int) = (b0 : Int)
  w1 : IntKind.u32.wrap (b1 : Int) = (b1 : Int)
  w2 : IntKind.u32.wrap (b2 : Int) = (b2 : Int)
  w3 : IntKind.u32.wrap (b3 : Int) = (b3 : Int)
  s0 : IntKind.u32.wrap ((b0 : Int) * 16777216) = ((b0 * 16777216 : Nat) : Int)
  s1 : IntKind.u32.wrap ((b1 : Int) * 65536) = ((b1 * 65536 : Nat) : Int)
  s2 : IntKind.u32.wrap ((b2 : Int) * 256) = ((b2 * 256 : Nat) : Int)
theorem four {b0 b1 b2 b3 : Nat} (h0 : b0 < 256) (h1 : b1 < 256) (h2 : b2 < 256) (h3 : b3 < 256) : Four b0 b1 b2 b3 :=
  ⟨wrap_u32 _ (by omega), wrap_u32 _ (by omega), wrap_u32 _ (by omega), wrap_u32 _ (by omega), wrap_u32 (b0 * 16777216) (by omega), wrap_u32 (b1 * 65536) (by omega), wrap_u32 (b2 * 256) (by omega)⟩
theorem four_or {b0 b1 b2 b3 : Nat} (h0 : b0 < 256) (h1 : b1 < 256) (h2 : b2 < 256) (h3 : b3 < 256) :
    bits BinOp.or IntKind.u32 (bits BinOp.or IntKind.u32 (bits BinOp.or IntKind.u32 ((b0 * 16777216 : Nat) : Int) ((b1 * 65536 : Nat) : Int)) ((b2 * 256 : Nat) : Int)) (b3 : Int) = ((num4 b0 b1 b2 b3 : Nat) : Int) := by
  rw [or_u32 24 b0 (b1 * 65536) _ (by omega) (by omega) (by omega) (by omega), or_u32 16 (b0 * 256 + b1) (b2 * 256) _ (by omega) (by omega) (by omega) (by omega),
    or_u32 8 (b0 * 65536 + b1 * 256 + b2) b3 _ (by omega) (by omega) (by omega) (by omega)]
  rfl

set_option maxRecDepth 100000 in
set_option maxHeartbeats 1000000 in
theorem number_any (s : ByteArray) (k : Nat) (w : World) (hs : s.size ≤ 1048576000) (h0 : k < s.size) (h1 : k + 1 < s.size) (h2 : k + 2 < s.size) (h3 : k + 3 < s.size) :
    Calls Try.prog 41 #[.string s, .int .i64 k] w fun e w' => e = .returned (.int .u32 (num4 s[k].toNat s[k + 1].toNat s[k + 2].toNat s[k + 3].toNat)) ∧ ∃ n, w' = w.drewN n := by
  have e1 : IntKind.i64.wrap ((k : Int) + 1) = (k : Int) + 1 := IntWalk.i64_in _ (by omega)
  have e2 : IntKind.i64.wrap ((k : Int) + 2) = (k : Int) + 2 := IntWalk.i64_in _ (by omega)
  have e3 : IntKind.i64.wrap ((k : Int) + 3) = (k : Int) + 3 := IntWalk.i64_in _ (by omega)
  have g0 : (k : Int) < s.size := by omega
  have g1 : (k : Int) + 1 < s.size := by omega
  have g2 : (k : Int) + 2 < s.size := by omega
  have g3 : (k : Int) + 3 < s.size := by omega
  have p1 : 0 ≤ (k : Int) + 1 := by omega
  have p2 : 0 ≤ (k : Int) + 2 := by omega
  have p3 : 0 ≤ (k : Int) + 3 := by omega
  have t1 : ((k : Int) + 1).toNat = k + 1 := by omega
  have t2 : ((k : Int) + 2).toNat = k + 2 := by omega
  have t3 : ((k : Int) + 3).toNat = k + 3 := by omega
  obtain ⟨b0, hb0⟩ : ∃ b, s[k].toNat = b := ⟨_, rfl⟩
  obtain ⟨b1, hb1⟩ : ∃ b, s[k + 1].toNat = b := ⟨_, rfl⟩
  obtain ⟨b2, hb2⟩ : ∃ b, s[k + 2].toNat = b := ⟨_, rfl⟩
  obtain ⟨b3, hb3⟩ : ∃ b, s[k + 3].toNat = b := ⟨_, rfl⟩
  have l0 : b0 < 256 := by rw [← hb0]; exact s[k].toNat_lt
  have l1 : b1 < 256 := by rw [← hb1]; exact s[k + 1].toNat_lt
  have l2 : b2 < 256 := by rw [← hb2]; exact s[k + 2].toNat_lt
  have l3 : b3 < 256 := by rw [← hb3]; exact s[k + 3].toNat_lt
  obtain ⟨w0, w1, w2, w3, s0, s1, s2⟩ := four l0 l1 l2 l3
  have HO := Lib.hid (four_or l0 l1 l2 l3)
  rw [hb0, hb1, hb2, hb3]
  obtain ⟨c0, hc0⟩ : ∃ c, c = b0 * 16777216 := ⟨_, rfl⟩
  obtain ⟨c1, hc1⟩ : ∃ c, c = b1 * 65536 := ⟨_, rfl⟩
  obtain ⟨c2, hc2⟩ : ∃ c, c = b2 * 256 := ⟨_, rfl⟩
  rw [← hc0] at s0 HO
  rw [← hc1] at s1 HO
  rw [← hc2] at s2 HO
  clear hc0 hc1 hc2
  go_enter Try.func41, Try.ntmps41
  go_wp2_with fail
  go_quiet (fail)
  go_wp2_with fail
  go_ret
  exact ⟨by rw [← HO.out]; rfl, _, rfl⟩
end Go.Proofs.Ytdnaifkcogadkaa
