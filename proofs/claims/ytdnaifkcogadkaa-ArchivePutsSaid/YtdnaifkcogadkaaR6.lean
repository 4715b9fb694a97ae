/- Walks: an entry's data; Decode; the law's decode; same. -/
import Derived.Test.YtdnaifkcogadkaaR5
import Derived.Laws.StructEq
namespace Go.Proofs.Ytdnaifkcogadkaa
open Go.RowKit

/-- Where the directory is right: what is known of its entries. -/
theorem withOff_mem : ∀ (l : List Ent) (a : Nat) (x : Ent × Nat), x ∈ withOff a l → x.1 ∈ l ∧ a ≤ x.2 ∧ x.2 + x.1.size ≤ a + sizes l
  | [], _, _, h => by simp [withOff] at h
  | e :: r, a, x, h => by
    simp only [withOff, List.mem_cons] at h
    have hs : sizes (e :: r) = e.size + sizes r := by simp [sizes]
    rcases h with rfl | h
    · exact ⟨by simp, Nat.le_refl _, by rw [hs]; simp only; omega⟩
    · obtain ⟨h1, h2, h3⟩ := withOff_mem r (a + e.size) x h
      exact ⟨by simp [h1], by omega, by rw [hs]; omega⟩
structure DirOk (l : List Nat) : Prop where
  c1 : 12 ≤ l.length
  c2 : l.take 4 = magicL
  c3 : get4 l 8 = ones ^^^ get4 l 4
  c4 : endL l + 4 ≤ l.length
  c5 : get4 l (endL l) = crcL (l.take (endL l))
  c6 : entL ((l.take (endL l)).drop 12) = some (dirEs l)
  c7 : (dirEs l).length ≤ 64
  c8 : entE none (dirEs l) = 0
  c9 : endL l + 4 + sizes (dirEs l) = l.length
theorem dirOk_iff (l : List Nat) : dirE l = 0 ↔ DirOk l := by
  constructor
  · intro h
    unfold dirE at h
    by_cases h1 : l.length < 12
    · rw [if_pos h1] at h; cases h
    rw [if_neg h1] at h
    by_cases h2 : l.take 4 ≠ magicL
    · rw [if_pos h2] at h; cases h
    rw [if_neg h2] at h
    by_cases h3 : get4 l 8 ≠ ones ^^^ get4 l 4
    · rw [if_pos h3] at h; cases h
    rw [if_neg h3] at h
    by_cases h4 : l.length < endL l + 4
    · rw [if_pos h4] at h; cases h
    rw [if_neg h4] at h
    by_cases h5 : get4 l (endL l) ≠ crcL (l.take (endL l))
    · rw [if_pos h5] at h; cases h
    rw [if_neg h5] at h
    cases he : entL ((l.take (endL l)).drop 12) with
    | none => rw [he] at h; cases h
    | some es =>
      rw [he] at h
      have hd : dirEs l = es := by unfold dirEs; rw [he]; rfl
      simp only at h
      by_cases h6 : 64 < es.length
      · rw [if_pos h6] at h; cases h
      rw [if_neg h6] at h
      by_cases h7 : entE none es ≠ 0
      · rw [if_pos h7] at h; exact absurd h h7
      rw [if_neg h7] at h
      by_cases h8 : l.length < endL l + 4 + sizes es
      · rw [if_pos h8] at h; cases h
      rw [if_neg h8] at h
      by_cases h9 : endL l + 4 + sizes es < l.length
      · rw [if_pos h9] at h; cases h
      exact ⟨by omega, by simpa using h2, by simpa using h3, by omega, by simpa using h5, by rw [hd]; exact he, by rw [hd]; omega, by rw [hd]; simpa using h7, by rw [hd]; omega⟩
  · intro h
    rw [(dirE_7 (by have := h.c1; omega) h.c2 h.c3 (by have := h.c4; omega) h.c5 h.c6).1, if_neg (by have := h.c7; omega), if_neg (by have := h.c8; simpa using this),
      if_neg (by have := h.c9; omega), if_neg (by have := h.c9; omega)]
theorem entE_each : ∀ (l : List Ent) (p : Option Ent), entE p l = 0 → ∀ x ∈ l, nameL (bytesN x.name) = true ∧ x.size ≤ 1048576
  | [], _, _, _, h => by simp at h
  | e :: r, p, h, x, hx => by
    rw [entE_cons] at h
    by_cases hb : badE p e ≠ 0
    · rw [if_pos hb] at h; exact absurd h hb
    · rw [if_neg hb] at h
      rcases List.mem_cons.1 hx with rfl | hx
      · have hb0 : badE p x = 0 := by simpa using hb
        have hn : nameL (bytesN x.name) = true := by
          cases hq : nameL (bytesN x.name) with
          | true => rfl
          | false => rw [badE_name hq] at hb0; cases hb0
        refine ⟨hn, ?_⟩
        by_cases hs : 1048576 < x.size
        · exfalso
          cases p with
          | none => rw [badE_first hn, if_pos hs] at hb0; cases hb0
          | some y =>
            rw [badE_next hn] at hb0
            split at hb0
            · cases hb0
            · split at hb0
              · cases hb0
              · cases hb0
        · omega
      · exact entE_each r (some e) h x hx
theorem dirX_ok {l : List Nat} (h : dirE l = 0) : dirX l = withOff (endL l + 4) (dirEs l) := by unfold dirX; rw [if_pos h]
theorem dirX_bad {l : List Nat} (h : dirE l ≠ 0) : dirX l = [] := by unfold dirX; rw [if_neg h]
/-- What a reader knows of each entry. -/
def EntOk (l : List Nat) (x : Ent × Nat) : Prop := x.2 + x.1.size ≤ l.length ∧ x.1.size ≤ 1048576 ∧ nameL (bytesN x.1.name) = true
theorem dirX_each (l : List Nat) : ∀ x ∈ dirX l, EntOk l x := by
  intro x hx
  by_cases h : dirE l = 0
  · have ok := (dirOk_iff l).1 h
    rw [dirX_ok h] at hx
    obtain ⟨h1, h2, h3⟩ := withOff_mem _ _ x hx
    obtain ⟨h4, h5⟩ := entE_each _ none ok.c8 x.1 h1
    exact ⟨by have := ok.c9; omega, h5, h4⟩
  · rw [dirX_bad h] at hx; simp at hx
theorem dirX_len (l : List Nat) : (dirX l).length ≤ 64 := by
  by_cases h : dirE l = 0
  · rw [dirX_ok h, withOff_length]; exact ((dirOk_iff l).1 h).c7
  · rw [dirX_bad h]; simp

/-- What is read of an entry. -/
def dataS (s : ByteArray) (x : Ent × Nat) : ByteArray := s.extract x.2 (x.2 + x.1.size)
theorem dataS_bytes (s : ByteArray) (x : Ent × Nat) : bytesN (dataS s x) = datOf (bytesN s) x := by
  unfold dataS datOf
  rw [bytesN_extract, List.drop_take]
  congr 1
  omega
theorem dataS_ofN (s : ByteArray) (x : Ent × Nat) : ofN (datOf (bytesN s) x) = dataS s x := bytesN_inj (by
  rw [bytesN_ofN, dataS_bytes]
  intro b hb
  exact bytesN_lt s b (List.mem_of_mem_drop (List.mem_of_mem_take hb)))
def datPost (s : ByteArray) (x : Ent × Nat) (d : ByteArray) (n : Int) : Prop := if datOk (bytesN s) x = true then d = dataS s x ∧ n = 0 else d = ⟨#[]⟩ ∧ n = 33

theorem BoxE.three {w w' : World} {B a : Nat} {x : Ent} (h : BoxE w B x a) (hb : Below w.heap.size w w') : w'.cell? ⟨B, 3, none⟩ = some (.int .u32 x.sum) := blk_cell (BoxE.over h hb) 3

set_option maxRecDepth 100000 in
set_option maxHeartbeats 2000000 in
theorem data_any (s nm : ByteArray) (off sz sm : Nat) (w : World) (hs : s.size ≤ 1048576000) (hx : off + sz ≤ s.size) :
    Calls Try.prog 45 #[.agg #[.string nm, .int .i64 off, .int .i64 sz, .int .u32 sm], .string s] w fun e w' => ∃ d n, e = .returned (.tuple #[.string d, .int .i64 n]) ∧ datPost s ((⟨nm, sz, sm⟩ : Ent), off) d n ∧ Below w.heap.size w w' := by
  obtain ⟨en, hen⟩ : ∃ n, n = off + sz := ⟨_, rfl⟩
  have h1 : IntKind.i64.wrap ((off : Int) + (sz : Int)) = (en : Int) := by rw [IntWalk.i64_in _ (by omega)]; omega
  have h2 : (off : Int) + (sz : Int) = (en : Int) := by omega
  have k1 : (off : Int) ≤ (en : Int) := by omega
  have k2 : (en : Int) ≤ (s.size : Int) := by omega
  have k3 : en ≤ s.size := by omega
  obtain ⟨d, hd⟩ : ∃ d, d = s.extract off en := ⟨_, rfl⟩
  have HD : Hid (dataS s ((⟨nm, sz, sm⟩ : Ent), off) = d) := Lib.hid (by unfold dataS; rw [hd, hen])
  have hds : d.size ≤ 1048576000 := by rw [hd, ByteArray.size_extract]; omega
  have hd' := hd.symm
  obtain ⟨cr, hcr⟩ : ∃ c, c = crcL (bytesN d) := ⟨_, rfl⟩
  have CS : Hid (∀ W, Calls Try.prog 19 #[.string d] W fun e w' => e = .returned (.int .u32 cr) ∧ Below W.heap.size W w') := Lib.hid (fun W => by rw [hcr]; exact checksum_any d W (by omega))
  have HOK : Hid (datOk (bytesN s) ((⟨nm, sz, sm⟩ : Ent), off) = (cr == sm)) := Lib.hid (by unfold datOk; rw [← dataS_bytes, HD.out, hcr])
  have bx : BoxE (w.alloc (.cells #[.string nm, .int .i64 off, .int .i64 sz, .int .u32 sm] 43)) w.heap.size ⟨nm, sz, sm⟩ off := heap_alloc_new _ _
  have bxd : BoxE (w.alloc (.cells #[.string nm, .int .i64 off, .int .i64 sz, .int .u32 sm] 43)).drew w.heap.size ⟨nm, sz, sm⟩ off := bx
  have bw : Below w.heap.size w (w.alloc (.cells #[.string nm, .int .i64 off, .int .i64 sz, .int .u32 sm] 43)).drew := ((Below.refl _ _).alloc (Nat.le_refl _) _).drew
  have c3 := (BoxE.cs bxd).2.2.2.1
  have BX := Lib.hid bxd
  clear hd hcr hen bxd
  by_cases hc : cr = sm
  · subst hc
    have hq := eq_nat cr
    have HP : Hid (datPost s ((⟨nm, sz, cr⟩ : Ent), off) d 0) := Lib.hid (by unfold datPost; rw [if_pos (by rw [HOK.out]; simp)]; exact ⟨HD.out.symm, rfl⟩)
    go_enter Try.func45, Try.ntmps45
    go_wp2_with fail
    go_region_held3 (fun w' => w'.cell? ⟨w.heap.size, 3, none⟩ = some (.int .u32 cr))
      (first
        | assumption
        | exact BoxE.three BX.out (by assumption))
      (first
        | (go_at_call 19; (with_reducible refine (CS.out _).mono ?_); rintro e w' ⟨rfl, hb1⟩))
    go_wp2_with fail
    go_ret2
    exact ⟨_, _, rfl, HP.out, bw.trans (hb1.mono (by simp))⟩
  · have hq := neq_nat hc
    have HP : Hid (datPost s ((⟨nm, sz, sm⟩ : Ent), off) ⟨#[]⟩ 33) := Lib.hid (by unfold datPost; rw [if_neg (by rw [HOK.out]; simpa using hc)]; exact ⟨rfl, rfl⟩)
    clear hc
    go_enter Try.func45, Try.ntmps45
    go_wp2_with fail
    go_region_held3 (fun w' => w'.cell? ⟨w.heap.size, 3, none⟩ = some (.int .u32 sm))
      (first
        | assumption
        | exact BoxE.three BX.out (by assumption))
      (first
        | (go_at_call 19; (with_reducible refine (CS.out _).mono ?_); rintro e w' ⟨rfl, hb1⟩))
    go_wp2_with fail
    go_ret2
    exact ⟨_, _, rfl, HP.out, bw.trans (hb1.mono (by simp))⟩

/-- What Decode answers. -/
theorem decE_dir {l : List Nat} (h : dirE l ≠ 0) : decE l = dirE l := by unfold decE; rw [if_pos h]
theorem decE_all {l : List Nat} (h : dirE l = 0) : decE l = if (dirX l).all (datOk l) = true then 0 else 33 := by unfold decE; rw [if_neg (by simpa using h)]
def partOf (l : List Nat) (x : Ent × Nat) : Prt := (x.1.name, ofN (datOf l x))
theorem decP_ok {l : List Nat} (h : decE l = 0) : decP l = (dirX l).map (partOf l) := by unfold decP; rw [if_pos h]; rfl
theorem decP_bad {l : List Nat} (h : decE l ≠ 0) : decP l = [] := by unfold decP; rw [if_neg h]
def DecPost (B : Nat) (l : List Nat) (v : Value) (n : Int) (w : World) : Prop := n = decE l ∧ OwnP w B v (decP l)
theorem decPost_bad {B : Nat} {l : List Nat} {w : World} {n : Int} (h : decE l = n) (hn : n ≠ 0) : DecPost B l (.slice none 0 0) n w := by
  refine ⟨h.symm, ?_⟩
  rw [decP_bad (by rw [h]; exact hn)]
  exact Own.nil _ _

/-- What a round reads of an entry of a list that lies. -/
theorem Ents.at {w : World} {B n c : Nat} {A : Option Addr} {l : List (Ent × Nat)} (h : Ents w B (.slice A n c) l) (k : Nat) (x : Ent × Nat) (hk : l[k]? = some x) :
    ∃ b o, A = some ⟨b, o, none⟩ ∧ b < B ∧ w.cell? ⟨b, o + k * 4, none⟩ = some (.string x.1.name) ∧ w.cell? ⟨b, o + k * 4 + 1, none⟩ = some (.int .i64 x.2) ∧
      w.cell? ⟨b, o + k * 4 + 2, none⟩ = some (.int .i64 x.1.size) ∧ w.cell? ⟨b, o + k * 4 + 3, none⟩ = some (.int .u32 x.1.sum) := by
  obtain ⟨A', c', hv, h1, h2, h3⟩ := h
  injection hv with e1 e2 e3
  subst e1 e2 e3
  obtain ⟨b, o, rfl, hb, hc⟩ := h3 (by have := (List.getElem?_eq_some_iff.1 hk).1; omega)
  exact ⟨b, o, rfl, hb, hc k x hk 0 _ rfl, hc k x hk 1 _ rfl, hc k x hk 2 _ rfl, hc k x hk 3 _ rfl⟩
end Go.Proofs.Ytdnaifkcogadkaa
