/- Plainly: UTF-8 decoded strictly; collation elements, weights, keys. -/
namespace Go.Proofs.YtknnjnginmkblaaDoor

/-- Bounds of the second byte behind a first byte. -/
def lowB (a : Nat) : Nat := if a = 224 then 160 else if a = 240 then 144 else 128
def highB (a : Nat) : Nat := if a = 237 then 159 else if a = 244 then 143 else 191
def contB (b : Nat) : Bool := decide (128 ≤ b ∧ b ≤ 191)
def secB (a b : Nat) : Bool := decide (lowB a ≤ b ∧ b ≤ highB a)
/-- The number of bytes of an encoding with a first byte; 0 if none begins with it. -/
def lenB (a : Nat) : Nat := if a < 128 then 1 else if a < 194 ∨ 244 < a then 0 else if a < 224 then 2 else if a < 240 then 3 else 4
/-- The code point that begins here, and the number of its bytes. -/
def dec2 (a : Nat) : List Nat → Option (Nat × Nat)
  | b :: _ => if secB a b = true then some ((a - 192) * 64 + (b - 128), 2) else none
  | [] => none
def dec3 (a : Nat) : List Nat → Option (Nat × Nat)
  | b :: c :: _ => if secB a b = true ∧ contB c = true then some (((a - 224) * 64 + (b - 128)) * 64 + (c - 128), 3) else none
  | _ => none
def dec4 (a : Nat) : List Nat → Option (Nat × Nat)
  | b :: c :: d :: _ => if secB a b = true ∧ contB c = true ∧ contB d = true then some ((((a - 240) * 64 + (b - 128)) * 64 + (c - 128)) * 64 + (d - 128), 4) else none
  | _ => none
def dec1 : List Nat → Option (Nat × Nat)
  | [] => none
  | a :: r => if lenB a = 1 then some (a, 1) else if lenB a = 2 then dec2 a r else if lenB a = 3 then dec3 a r else if lenB a = 4 then dec4 a r else none
theorem dec2_size {a p n : Nat} {r : List Nat} (h : dec2 a r = some (p, n)) : n = 2 ∧ 1 ≤ r.length := by
  match r with
  | [] => exact absurd h (by simp [dec2])
  | b :: r =>
    simp only [dec2] at h
    by_cases hs : secB a b = true
    · rw [if_pos hs] at h
      injection h with h
      injection h with _ h
      exact ⟨h.symm, by simp⟩
    · rw [if_neg hs] at h; exact absurd h (by simp)
theorem dec3_size {a p n : Nat} {r : List Nat} (h : dec3 a r = some (p, n)) : n = 3 ∧ 2 ≤ r.length := by
  match r with
  | [] => exact absurd h (by simp [dec3])
  | [b] => exact absurd h (by simp [dec3])
  | b :: c :: r =>
    simp only [dec3] at h
    by_cases hs : secB a b = true ∧ contB c = true
    · rw [if_pos hs] at h
      injection h with h
      injection h with _ h
      exact ⟨h.symm, by simp⟩
    · rw [if_neg hs] at h; exact absurd h (by simp)
theorem dec4_size {a p n : Nat} {r : List Nat} (h : dec4 a r = some (p, n)) : n = 4 ∧ 3 ≤ r.length := by
  match r with
  | [] => exact absurd h (by simp [dec4])
  | [b] => exact absurd h (by simp [dec4])
  | [b, c] => exact absurd h (by simp [dec4])
  | b :: c :: d :: r =>
    simp only [dec4] at h
    by_cases hs : secB a b = true ∧ contB c = true ∧ contB d = true
    · rw [if_pos hs] at h
      injection h with h
      injection h with _ h
      exact ⟨h.symm, by simp⟩
    · rw [if_neg hs] at h; exact absurd h (by simp)
theorem dec1_size {l : List Nat} {p n : Nat} (h : dec1 l = some (p, n)) : 1 ≤ n ∧ n ≤ l.length ∧ n ≤ 4 := by
  match l with
  | [] => exact absurd h (by simp [dec1])
  | a :: r =>
    simp only [dec1] at h
    rw [List.length_cons]
    by_cases h1 : lenB a = 1
    · rw [if_pos h1] at h
      injection h with h
      injection h with _ h
      omega
    rw [if_neg h1] at h
    by_cases h2 : lenB a = 2
    · rw [if_pos h2] at h
      have := dec2_size h
      omega
    rw [if_neg h2] at h
    by_cases h3 : lenB a = 3
    · rw [if_pos h3] at h
      have := dec3_size h
      omega
    rw [if_neg h3] at h
    by_cases h4 : lenB a = 4
    · rw [if_pos h4] at h
      have := dec4_size h
      omega
    rw [if_neg h4] at h
    exact absurd h (by simp)
/-- The code points of a string with their sizes; none if it is not valid. -/
def pts (l : List Nat) : Option (List (Nat × Nat)) :=
  match h : dec1 l with
  | none => if l = [] then some [] else none
  | some (p, n) => (pts (l.drop n)).map fun t => (p, n) :: t
termination_by l.length
decreasing_by
  have := dec1_size h
  rw [List.length_drop]; omega
theorem pts_nil : pts [] = some [] := by unfold pts; rfl
theorem pts_bad {l : List Nat} (h : dec1 l = none) (hl : l ≠ []) : pts l = none := by
  unfold pts
  split
  · rw [if_neg hl]
  · rename_i h2; rw [h] at h2; cases h2
theorem pts_cons {l : List Nat} {p n : Nat} (h : dec1 l = some (p, n)) : pts l = (pts (l.drop n)).map fun t => (p, n) :: t := by
  rw [pts]
  split
  · rename_i h2; rw [h] at h2; cases h2
  · rename_i p' n' h2
    rw [h] at h2
    cases h2
    rfl

/-- Options. -/
structure Opt where
  strength : Int
  num : Bool
  ign : Bool
  upper : Bool
/-- A collation element. -/
structure El where
  p : Nat
  s : Nat
  t : Nat
deriving DecidableEq
def baseE (p : Nat) : El := ⟨p, 32, 2⟩
def letterE (c : Nat) (u : Bool) : El := if 97 ≤ c then baseE (32768 + 4 * (c - 97)) else ⟨32768 + 4 * (c - 65), 32, if u = true then 1 else 3⟩
def markE (c : Nat) : El := ⟨0, 33 + c - 768, 0⟩
def digB (c : Nat) : Bool := decide (48 ≤ c ∧ c ≤ 57)
def letB (c : Nat) : Bool := decide (97 ≤ c ∧ c ≤ 122 ∨ 65 ≤ c ∧ c ≤ 90)
/-- The accented capital letters: the letter and the mark; 0 where there is none. -/
def accL : List (Nat × Nat) := [(65, 768), (65, 769), (65, 770), (65, 771), (65, 776), (65, 778), (0, 0), (67, 807), (69, 768), (69, 769), (69, 770), (69, 776), (73, 768), (73, 769), (73, 770), (73, 776), (0, 0), (78, 771), (79, 768), (79, 769), (79, 770), (79, 771), (79, 776), (0, 0), (79, 824), (85, 768), (85, 769), (85, 770), (85, 776), (89, 769)]
def accOf (c : Nat) : Nat × Nat := if 224 ≤ c then (let a := accL.getD (c - 224) (0, 0); if a.1 = 0 then (0, 0) else (a.1 + 32, a.2)) else accL.getD (c - 192) (0, 0)
/-- The elements of a code point. -/
def pointE (c : Nat) (o : Opt) : List El :=
  if c < 32 ∨ 127 ≤ c ∧ c ≤ 159 ∨ c = 173 then []
  else if digB c = true then [baseE (512 + c - 48)]
  else if letB c = true then [letterE c o.upper]
  else if c < 127 then (if o.ign = true then [] else [baseE (256 + c)])
  else if 768 ≤ c ∧ c ≤ 879 then [markE c]
  else if c = 198 then [letterE 65 o.upper, letterE 69 o.upper]
  else if c = 230 then [letterE 97 o.upper, letterE 101 o.upper]
  else if c = 223 then [letterE 115 o.upper, letterE 115 o.upper]
  else if c = 255 then [letterE 121 o.upper, markE 776]
  else if 192 ≤ c ∧ c ≤ 253 ∧ c ≠ 222 then (if (accOf c).1 = 0 then [baseE (65536 + c)] else [letterE (accOf c).1 o.upper, markE (accOf c).2])
  else [baseE (65536 + c)]
/-- A run of digits without the zeros ahead. -/
def trim0 : List Nat → List Nat
  | 48 :: b :: r => trim0 (b :: r)
  | l => l
def numberE (run : List Nat) : List El := baseE (768 + (trim0 run).length) :: (trim0 run).map fun c => baseE (512 + c - 48)
/-- The elements of code points. -/
def elemsL (o : Opt) : Nat → List Nat → List El
  | 0, _ => []
  | _ + 1, [] => []
  | f + 1, c :: r => if o.num = true ∧ digB c = true then numberE (c :: r.takeWhile digB) ++ elemsL o f (r.dropWhile digB) else pointE c o ++ elemsL o f r
def elems (o : Opt) (l : List Nat) : List El := elemsL o l.length l
theorem elemsL_more (o : Opt) : ∀ (f : Nat) (l : List Nat), l.length ≤ f → elemsL o f l = elems o l := by
  have key : ∀ (n f g : Nat) (l : List Nat), l.length ≤ n → l.length ≤ f → l.length ≤ g → elemsL o f l = elemsL o g l := by
    intro n
    induction n with
    | zero =>
      intro f g l hn _ _
      have : l = [] := List.eq_nil_of_length_eq_zero (by omega)
      subst this
      cases f <;> cases g <;> rfl
    | succ n ih =>
      intro f g l hn hf hg
      cases l with
      | nil => cases f <;> cases g <;> rfl
      | cons c r =>
        simp only [List.length_cons] at hn hf hg
        obtain ⟨f, rfl⟩ : ∃ k, f = k + 1 := ⟨f - 1, by omega⟩
        obtain ⟨g, rfl⟩ : ∃ k, g = k + 1 := ⟨g - 1, by omega⟩
        have hd : (r.dropWhile digB).length ≤ r.length := (List.dropWhile_sublist _).length_le
        simp only [elemsL]
        rw [ih f g (r.dropWhile digB) (by omega) (by omega) (by omega), ih f g r (by omega) (by omega) (by omega)]
  intro f l h
  exact key l.length f l.length l (Nat.le_refl _) h (Nat.le_refl _)
theorem elems_nil (o : Opt) : elems o [] = [] := rfl
theorem elems_num {o : Opt} {c : Nat} {r : List Nat} (h1 : o.num = true) (h2 : digB c = true) : elems o (c :: r) = numberE (c :: r.takeWhile digB) ++ elems o (r.dropWhile digB) := by
  show elemsL o (r.length + 1) (c :: r) = _
  simp only [elemsL]
  rw [if_pos ⟨h1, h2⟩, elemsL_more o r.length _ (List.dropWhile_sublist _).length_le]
theorem elems_point {o : Opt} {c : Nat} {r : List Nat} (h : ¬ (o.num = true ∧ digB c = true)) : elems o (c :: r) = pointE c o ++ elems o r := by
  show elemsL o (r.length + 1) (c :: r) = _
  simp only [elemsL]
  rw [if_neg h]
  rfl

/-- The weights on a level. -/
def wts (f : El → Nat) (l : List El) : List Nat := (l.map f).filter fun w => decide (0 < w)
/-- The key's bytes: level by level. -/
def lev3 (l : List El) : List Nat := (wts El.p l ++ [0]).flatMap fun w => [w / 65536 % 256, w / 256 % 256, w % 256]
def lev2 (l : List El) : List Nat := (wts El.s l ++ [0]).flatMap fun w => [w / 256 % 256, w % 256]
def lev1 (l : List El) : List Nat := (wts El.t l ++ [0]).flatMap fun w => [w % 256]
def keyL (k : Nat) (s : List Nat) (l : List El) : List Nat := (if 1 ≤ k then lev3 l else []) ++ (if 2 ≤ k then lev2 l else []) ++ (if 3 ≤ k then lev1 l else []) ++ (if 4 ≤ k then s else [])
/-- Lists of numbers compared. -/
def ordL : List Nat → List Nat → Int
  | [], [] => 0
  | [], _ :: _ => -1
  | _ :: _, [] => 1
  | a :: x, b :: y => if a < b then -1 else if b < a then 1 else ordL x y
def cmpL (k : Nat) (a b : List Nat) (x y : List El) : Int :=
  if ordL (wts El.p x) (wts El.p y) ≠ 0 then ordL (wts El.p x) (wts El.p y)
  else if 2 ≤ k ∧ ordL (wts El.s x) (wts El.s y) ≠ 0 then ordL (wts El.s x) (wts El.s y)
  else if 3 ≤ k ∧ ordL (wts El.t x) (wts El.t y) ≠ 0 then ordL (wts El.t x) (wts El.t y)
  else if 4 ≤ k then ordL a b else 0
/-- The error of options and strings. -/
def optE (o : Opt) : Int := if o.strength < 1 ∨ 4 < o.strength then 2 else 0
theorem ordL_refl : ∀ (l : List Nat), ordL l l = 0
  | [] => rfl
  | a :: l => by simp [ordL, ordL_refl l]
theorem ordL_eq : ∀ (x y : List Nat), ordL x y = 0 → x = y
  | [], [], _ => rfl
  | [], _ :: _, h => by simp [ordL] at h
  | _ :: _, [], h => by simp [ordL] at h
  | a :: x, b :: y, h => by
    unfold ordL at h
    split at h
    · cases h
    · split at h
      · cases h
      · rw [ordL_eq x y h, show a = b by omega]
theorem ordL_anti : ∀ (x y : List Nat), ordL y x = - ordL x y
  | [], [] => rfl
  | [], _ :: _ => rfl
  | _ :: _, [] => rfl
  | a :: x, b :: y => by
    have ih := ordL_anti x y
    unfold ordL
    by_cases h1 : a < b
    · rw [if_pos h1, if_neg (by omega), if_pos h1]; rfl
    · by_cases h2 : b < a
      · rw [if_pos h2, if_neg h1, if_pos h2]
      · rw [if_neg h2, if_neg h1, if_neg h1, if_neg h2]; exact ih
end Go.Proofs.YtknnjnginmkblaaDoor
