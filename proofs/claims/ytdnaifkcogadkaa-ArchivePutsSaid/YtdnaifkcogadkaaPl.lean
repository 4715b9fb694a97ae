/- The checksum, plainly: bit by bit, and by a table of single bytes. -/
namespace Go.Proofs.Ytdnaifkcogadkaa

def crcStep (n : Nat) : Nat := if n % 2 = 1 then (n / 2) ^^^ 3988292384 else n / 2
def crcSteps : Nat → Nat → Nat
  | 0, n => n
  | k + 1, n => crcSteps k (crcStep n)
def crcTab (i : Nat) : Nat := crcSteps 8 i
def crcB (x b : Nat) : Nat := crcSteps 8 (x ^^^ b)
def crcT (x b : Nat) : Nat := (x / 256) ^^^ crcTab ((x ^^^ b) % 256)
def crcF (x : Nat) (l : List Nat) : Nat := l.foldl crcB x
def ones : Nat := 4294967295
def crcL (l : List Nat) : Nat := ones ^^^ crcF ones l

theorem xor_div2 (a b : Nat) : (a ^^^ b) / 2 = a / 2 ^^^ b / 2 := by
  apply Nat.eq_of_testBit_eq
  intro i
  simp [Nat.testBit_div_two, Nat.testBit_xor]
theorem xor_mod2 (a b : Nat) : (a ^^^ b) % 2 = (a + b) % 2 := by
  have h := Nat.testBit_xor a b 0
  simp only [Nat.testBit_zero] at h
  rcases Nat.mod_two_eq_zero_or_one a with ha | ha <;> rcases Nat.mod_two_eq_zero_or_one b with hb | hb <;> rcases Nat.mod_two_eq_zero_or_one (a ^^^ b) with hc | hc <;> rw [ha, hb, hc] at h <;> first | (simp at h; done) | omega
theorem crcStep_xor (a b : Nat) : crcStep (a ^^^ b) = crcStep a ^^^ crcStep b := by
  unfold crcStep
  rw [xor_div2, xor_mod2]
  by_cases h1 : a % 2 = 1 <;> by_cases h2 : b % 2 = 1
  · rw [if_neg (by omega), if_pos h1, if_pos h2]
    have : ∀ p q c : Nat, (p ^^^ c) ^^^ (q ^^^ c) = p ^^^ q := fun p q c => by
      rw [Nat.xor_comm q c, Nat.xor_assoc, ← Nat.xor_assoc c c q, Nat.xor_self, Nat.zero_xor]
    rw [this]
  · rw [if_pos (by omega), if_pos h1, if_neg h2, Nat.xor_assoc, Nat.xor_comm (b / 2), ← Nat.xor_assoc]
  · rw [if_pos (by omega), if_neg h1, if_pos h2, Nat.xor_assoc]
  · rw [if_neg (by omega), if_neg h1, if_neg h2]
theorem crcSteps_xor : ∀ (k a b : Nat), crcSteps k (a ^^^ b) = crcSteps k a ^^^ crcSteps k b
  | 0, _, _ => rfl
  | k + 1, a, b => by rw [crcSteps, crcStep_xor, crcSteps_xor k]; rfl
theorem crcStep_even (n : Nat) : crcStep (2 * n) = n := by
  unfold crcStep
  rw [if_neg (by omega)]
  omega
theorem crcSteps_high (n : Nat) : crcSteps 8 (256 * n) = n := by
  have e : 256 * n = 2 * (2 * (2 * (2 * (2 * (2 * (2 * (2 * n))))))) := by omega
  rw [e]
  simp only [crcSteps, crcStep_even]
theorem split256 (y : Nat) : y = (256 * (y / 256)) ^^^ (y % 256) := by
  apply Nat.eq_of_testBit_eq
  intro i
  rw [Nat.testBit_xor, show 256 * (y / 256) = 2 ^ 8 * (y / 2 ^ 8) from rfl, show y % 256 = y % 2 ^ 8 from rfl, Nat.testBit_two_pow_mul, Nat.testBit_mod_two_pow]
  by_cases hi : i < 8
  · have h1 : ¬ 8 ≤ i := by omega
    simp [hi, h1]
  · have h1 : 8 ≤ i := by omega
    simp only [hi, h1, decide_true, decide_false, Bool.true_and, Bool.false_and, Bool.xor_false]
    rw [Nat.testBit_div_two_pow]
    congr 1
    omega
theorem crcT_eq (x b : Nat) (hb : b < 256) : crcT x b = crcB x b := by
  unfold crcT crcB crcTab
  have h := split256 (x ^^^ b)
  have e : (x ^^^ b) / 256 = x / 256 := by
    apply Nat.eq_of_testBit_eq
    intro i
    have h1 : ∀ z : Nat, (z / 256).testBit i = z.testBit (i + 8) := fun z => by
      rw [show 256 = 2 ^ 8 by rfl, Nat.testBit_div_two_pow, Nat.add_comm]
    rw [h1, h1, Nat.testBit_xor]
    have : b.testBit (i + 8) = false := Nat.testBit_lt_two_pow (Nat.lt_of_lt_of_le hb (by rw [Nat.pow_add]; exact Nat.le_mul_of_pos_left _ (Nat.two_pow_pos i)))
    rw [this]; simp
  rw [e] at h
  rw [show crcSteps 8 (x ^^^ b) = crcSteps 8 (256 * (x / 256) ^^^ (x ^^^ b) % 256) from by rw [← h], crcSteps_xor, crcSteps_high]

theorem crcStep_lt {n : Nat} (h : n < 4294967296) : crcStep n < 4294967296 := by
  unfold crcStep
  split
  · exact Nat.xor_lt_two_pow (n := 32) (by omega) (by decide)
  · omega
theorem crcSteps_lt : ∀ (k : Nat) {n : Nat}, n < 4294967296 → crcSteps k n < 4294967296
  | 0, _, h => h
  | k + 1, _, h => crcSteps_lt k (crcStep_lt h)
theorem crcB_lt {x b : Nat} (h : x < 4294967296) (hb : b < 256) : crcB x b < 4294967296 :=
  crcSteps_lt 8 (Nat.xor_lt_two_pow (n := 32) h (by omega))
theorem crcF_lt : ∀ (l : List Nat) {x : Nat}, x < 4294967296 → (∀ b ∈ l, b < 256) → crcF x l < 4294967296
  | [], _, h, _ => h
  | b :: l, _, h, hl => crcF_lt l (crcB_lt h (hl b (by simp))) (fun c hc => hl c (by simp [hc]))
theorem xor32_lt {a b : Nat} (ha : a < 4294967296) (hb : b < 4294967296) : a ^^^ b < 4294967296 := Nat.xor_lt_two_pow (n := 32) ha hb
theorem crcL_lt (l : List Nat) (hl : ∀ b ∈ l, b < 256) : crcL l < 4294967296 :=
  xor32_lt (a := ones) (by unfold ones; omega) (crcF_lt l (x := ones) (by unfold ones; omega) hl)
theorem crcF_append (l m : List Nat) (x : Nat) : crcF x (l ++ m) = crcF (crcF x l) m := List.foldl_append
theorem crcF_one (b x : Nat) : crcF x [b] = crcB x b := by unfold crcF; rw [List.foldl_cons, List.foldl_nil]
end Go.Proofs.Ytdnaifkcogadkaa
