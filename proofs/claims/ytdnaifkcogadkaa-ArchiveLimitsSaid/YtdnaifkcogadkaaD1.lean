/- Walk: Encode, whatever comes; the known examples. -/
import Derived.Test.YtdnaifkcogadkaaC10
namespace Go.Proofs.Ytdnaifkcogadkaa
open Go.RowKit

/-- What Encode answers. -/
def encPost (l : List Prt) (s : ByteArray) (e : Int) : Prop := e = errE l ∧ (errE l ≠ 0 → s = ⟨#[]⟩) ∧ (errE l = 0 → ∃ l' : List Prt, l'.Perm l ∧ SortedP l' ∧ bytesN s = encL l')
theorem encode_any (v : Value) (l : List Prt) (w : World) (h : Parts w w.heap.size v l) (hS : Small l) :
    Calls Try.prog 15 #[v] w fun e w' => ∃ (s : ByteArray) (n : Int), e = .returned (.tuple #[.string s, .int .i64 n]) ∧ encPost l s n ∧ Below w.heap.size w w' := by
  by_cases he : errE l = 0
  · refine (enc_ok v l w h hS he).mono ?_
    rintro e w' ⟨⟨s, l', rfl, h1, h2, h3⟩, hb⟩
    exact ⟨s, 0, rfl, ⟨he.symm, fun hn => absurd he hn, fun _ => ⟨l', h1, h2, h3⟩⟩, hb⟩
  · refine (enc_err v l w h hS he).mono ?_
    rintro e w' ⟨rfl, hb⟩
    exact ⟨_, _, rfl, ⟨rfl, fun _ => rfl, fun h0 => absurd h0 he⟩, hb⟩

def knownP : Prt := (⟨#[97]⟩, ⟨#[120, 121, 122]⟩)
def knownS : ByteArray := ⟨#[79, 66, 80, 49, 0, 0, 0, 10, 255, 255, 255, 245, 1, 97, 0, 0, 0, 3, 235, 142, 186, 103, 246, 117, 101, 71, 120, 121, 122]⟩
theorem knownP_err : errE [knownP] = 0 := by kernel_rfl
theorem known_enc : encL [knownP] = bytesN knownS := by kernel_rfl
theorem known_crc : crcL (bytesN ⟨#[49, 50, 51, 52, 53, 54, 55, 56, 57]⟩) = 3421780262 := by kernel_rfl
theorem own_parts1 (w : World) (x : Prt) : OwnP (w.alloc (.cells #[.string x.1, .string x.2] 38)) w.heap.size (.slice (some ⟨w.heap.size, 0, none⟩) 1 1) [x] :=
  ⟨rfl, .inr ⟨w.heap.size, 1, _, rfl, Nat.le_refl _, heap_alloc_new _ _, Nat.le_refl _, by simp [maxLen], rfl, rfl⟩⟩

set_option maxRecDepth 100000 in
set_option maxHeartbeats 1000000 in
theorem known_any (w : World) : Calls Try.prog 14 #[] w fun e w' => e = .returned (.bool true) ∧ Below w.heap.size w w' := by
  have HO := Lib.hid ((own_parts1 w knownP).sl encP_length)
  have hb0 := (Below.refl w.heap.size w).alloc (Nat.le_refl _) (.cells #[.string ⟨#[97]⟩, .string ⟨#[120, 121, 122]⟩] 38)
  have HS : Hid (Small [knownP]) := Lib.hid ⟨by decide, fun p hp => (List.mem_singleton.1 hp) ▸ ⟨by decide, by decide⟩⟩
  go_enter Try.func14, Try.ntmps14
  go_wp2_with fail
  refine (enc_ok _ [knownP] _ HO.out HS.out knownP_err).mono ?_
  rintro e w1 ⟨⟨s, l', rfl, h1, h2, h3⟩, hb1⟩
  obtain rfl : l' = [knownP] := List.perm_singleton.1 h1
  obtain rfl : s = knownS := bytesN_inj (h3.trans known_enc)
  clear h1 h2 h3
  have hb2 := hb0.trans (hb1.mono (by simp))
  clear hb0 hb1
  have e29 : knownS.size = 29 := rfl
  have ex1 : knownS.extract 0 12 = ⟨#[79, 66, 80, 49, 0, 0, 0, 10, 255, 255, 255, 245]⟩ := by kernel_rfl
  have ex2 : knownS.extract 26 29 = ⟨#[120, 121, 122]⟩ := by kernel_rfl
  go_wp2_with fail
  refine (checksum_any ⟨#[49, 50, 51, 52, 53, 54, 55, 56, 57]⟩ w1 (by decide)).mono ?_
  rw [known_crc]
  rintro e w2 ⟨rfl, hb3⟩
  have hb4 := hb2.trans (hb3.mono hb2.size)
  clear hb2 hb3
  go_wp2_with fail
  go_ret
  exact ⟨rfl, hb4⟩
end Go.Proofs.Ytdnaifkcogadkaa
