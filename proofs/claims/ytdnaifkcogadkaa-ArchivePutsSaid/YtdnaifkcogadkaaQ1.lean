/- Plainly: directories and archives read back. -/
import Derived.Test.YtdnaifkcogadkaaNames
import Derived.Test.YtdnaifkcogadkaaLib2
namespace Go.Proofs.Ytdnaifkcogadkaa

/-- An entry of a directory, without its offset. -/
structure Ent where
  name : ByteArray
  size : Nat
  sum : Nat

def get4 (l : List Nat) (k : Nat) : Nat := num4 (l.getD k 0) (l.getD (k + 1) 0) (l.getD (k + 2) 0) (l.getD (k + 3) 0)
def entL : List Nat → Option (List Ent)
  | [] => some []
  | c :: r => if r.length < c + 8 then none else (entL (r.drop (c + 8))).map fun t => ⟨ofN (r.take c), get4 r c, get4 r (c + 4)⟩ :: t
termination_by l => l.length
decreasing_by simp; omega
theorem entL_nil : entL [] = some [] := by rw [entL]
theorem entL_short {c : Nat} {r : List Nat} (h : r.length < c + 8) : entL (c :: r) = none := by rw [entL, if_pos h]
theorem entL_cons {c : Nat} {r : List Nat} (h : ¬ r.length < c + 8) : entL (c :: r) = (entL (r.drop (c + 8))).map fun t => ⟨ofN (r.take c), get4 r c, get4 r (c + 4)⟩ :: t := by rw [entL, if_neg h]

theorem bytesN_getD (s : ByteArray) (k : Nat) (h : k < s.size) : (bytesN s).getD k 0 = s[k].toNat := by
  rw [List.getD_eq_getElem?_getD, bytesN_get s k h]; rfl
theorem get4_bytes (s : ByteArray) (k : Nat) (h : k + 3 < s.size) : get4 (bytesN s) k = num4 s[k].toNat s[k + 1].toNat s[k + 2].toNat s[k + 3].toNat := by
  unfold get4
  rw [bytesN_getD s k (by omega), bytesN_getD s (k + 1) (by omega), bytesN_getD s (k + 2) (by omega), bytesN_getD s (k + 3) (by omega)]
theorem num4_lt {a b c d : Nat} (ha : a < 256) (hb : b < 256) (hc : c < 256) (hd : d < 256) : num4 a b c d < 4294967296 := by unfold num4; omega
theorem getD_lt {l : List Nat} (h : ∀ b ∈ l, b < 256) (k : Nat) : l.getD k 0 < 256 := by
  rw [List.getD_eq_getElem?_getD]
  by_cases hk : k < l.length
  · rw [List.getElem?_eq_getElem hk]; exact h _ (List.getElem_mem hk)
  · rw [List.getElem?_eq_none (by omega)]; decide
theorem get4_lt {l : List Nat} (h : ∀ b ∈ l, b < 256) (k : Nat) : get4 l k < 4294967296 := num4_lt (getD_lt h _) (getD_lt h _) (getD_lt h _) (getD_lt h _)
theorem get4_drop (l : List Nat) (n k : Nat) : get4 (l.drop n) k = get4 l (n + k) := by
  unfold get4
  simp only [List.getD_eq_getElem?_getD, List.getElem?_drop, Nat.add_assoc]
theorem get4_cons (c : Nat) (l : List Nat) (k : Nat) : get4 (c :: l) (k + 1) = get4 l k := by
  have := get4_drop (c :: l) 1 k
  rw [List.drop_one, List.tail_cons, Nat.add_comm] at this
  exact this.symm
theorem put32_get {n : Nat} (h : n < 4294967296) (l : List Nat) : get4 (put32 n ++ l) 0 = n := by
  simp [get4, put32, num4]; omega

/-- One entry read off a string. -/
theorem entL_step (d : ByteArray) (h0 : 0 < d.size) (c : Nat) (hc : d[0].toNat = c) :
    (d.size < 9 + c → entL (bytesN d) = none) ∧
    (9 + c ≤ d.size → entL (bytesN d) = (entL (bytesN (d.extract (9 + c) d.size))).map fun t => ⟨d.extract 1 (1 + c), get4 (bytesN d) (1 + c), get4 (bytesN d) (5 + c)⟩ :: t) := by
  have e := bytesN_drop d 0 h0
  rw [List.drop_zero, hc] at e
  have hl := bytesN_length d
  rw [e, List.length_cons] at hl
  have h1 : bytesN (d.extract 1 (1 + c)) = ((bytesN d).drop 1).take c := by
    rw [bytesN_extract, List.drop_take]; congr 1; omega
  have h2 : bytesN (d.extract (9 + c) d.size) = ((bytesN d).drop 1).drop (c + 8) := by
    rw [bytesN_extract, List.take_of_length_le (by rw [bytesN_length]; exact Nat.le_refl _), List.drop_drop]
    congr 1; omega
  have h3 : d.extract 1 (1 + c) = ofN (((bytesN d).drop 1).take c) := bytesN_inj (by
    rw [h1, bytesN_ofN (fun b hb => bytesN_lt d b (List.mem_of_mem_drop (List.mem_of_mem_take hb)))])
  have h4 : get4 ((bytesN d).drop 1) c = get4 (bytesN d) (1 + c) := get4_drop _ _ _
  have h5 : get4 ((bytesN d).drop 1) (c + 4) = get4 (bytesN d) (5 + c) := by
    rw [get4_drop]; congr 1; omega
  rw [h2, h3, ← h4, ← h5]
  rw [e]
  simp only [Nat.zero_add] at hl ⊢
  refine ⟨fun hs => entL_short (by omega), fun hs => ?_⟩
  rw [entL_cons (by omega)]
  rfl

/-- Entries with their offsets. -/
def withOff : Nat → List Ent → List (Ent × Nat)
  | _, [] => []
  | a, e :: r => (e, a) :: withOff (a + e.size) r
def sizes (l : List Ent) : Nat := (l.map Ent.size).sum
theorem sizes_append (l m : List Ent) : sizes (l ++ m) = sizes l + sizes m := by simp [sizes]
theorem withOff_append : ∀ (l m : List Ent) (a : Nat), withOff a (l ++ m) = withOff a l ++ withOff (a + sizes l) m
  | [], m, a => by simp [withOff, sizes]
  | e :: l, m, a => by
    simp only [List.cons_append, withOff, withOff_append l m, sizes, List.map_cons, List.sum_cons]
    rw [Nat.add_assoc]
theorem withOff_length : ∀ (l : List Ent) (a : Nat), (withOff a l).length = l.length
  | [], _ => rfl
  | e :: l, a => by simp [withOff, withOff_length l]
theorem withOff_fst : ∀ (l : List Ent) (a : Nat), (withOff a l).map Prod.fst = l
  | [], _ => rfl
  | e :: l, a => by simp [withOff, withOff_fst l]

/-- The error of an entry, behind the one ahead of it. -/
def badE (p : Option Ent) (e : Ent) : Int :=
  if nameL (bytesN e.name) = false then 13
  else match p with
    | none => if 1048576 < e.size then 10 else 0
    | some q => if e.name.toList = q.name.toList then 7 else if e.name.toList < q.name.toList then 6 else if 1048576 < e.size then 10 else 0
def entE : Option Ent → List Ent → Int
  | _, [] => 0
  | p, e :: r => if badE p e ≠ 0 then badE p e else entE (some e) r

def magicL : List Nat := [79, 66, 80, 49]
/-- The directory's end, as the header tells it. -/
def endL (l : List Nat) : Nat := 12 + get4 l 4
/-- The first error of a directory, and its entries. -/
def dirE (l : List Nat) : Int :=
  if l.length < 12 then 34
  else if l.take 4 ≠ magicL then 35
  else if get4 l 8 ≠ ones ^^^ get4 l 4 then 33
  else if l.length < endL l + 4 then 34
  else if get4 l (endL l) ≠ crcL (l.take (endL l)) then 33
  else match entL ((l.take (endL l)).drop 12) with
    | none => 15
    | some es => if 64 < es.length then 9 else if entE none es ≠ 0 then entE none es
      else if l.length < endL l + 4 + sizes es then 34 else if endL l + 4 + sizes es < l.length then 15 else 0
def dirEs (l : List Nat) : List Ent := (entL ((l.take (endL l)).drop 12)).getD []
def dirX (l : List Nat) : List (Ent × Nat) := if dirE l = 0 then withOff (endL l + 4) (dirEs l) else []

/-- The data of an entry. -/
def datOf (l : List Nat) (x : Ent × Nat) : List Nat := (l.drop x.2).take x.1.size
def datOk (l : List Nat) (x : Ent × Nat) : Bool := crcL (datOf l x) == x.1.sum
def decE (l : List Nat) : Int := if dirE l ≠ 0 then dirE l else if (dirX l).all (datOk l) = true then 0 else 33
def decP (l : List Nat) : List Prt := if decE l = 0 then (dirX l).map fun x => (x.1.name, ofN (datOf l x)) else []
end Go.Proofs.Ytdnaifkcogadkaa
