/- Walk: slices.SortedFunc over parts; what Encode computes, plainly. -/
import Derived.Test.YtdnaifkcogadkaaC6
import Derived.Test.YtdnaifkcogadkaaS1
namespace Go.Proofs.Ytdnaifkcogadkaa
open Go.RowKit

theorem PartAt.more {w : World} {B B' : Nat} {A : Option Addr} {l : List Prt} (h : PartAt w B A l) (hB : B ≤ B') : PartAt w B' A l := fun k hk => by
  obtain ⟨b, o, rfl, hb, h1, h2⟩ := h k hk
  exact ⟨b, o, rfl, by omega, h1, h2⟩

set_option maxHeartbeats 1000000 in
theorem sortedFunc_any (Bv : Nat) (A : Option Addr) (c : Nat) (ps : List Prt) (w : World) (hBv : Bv < w.heap.size)
    (hbox : w.cell? ⟨Bv, 0, none⟩ = some (.slice A ps.length c)) (hlc : ps.length ≤ c) (hc : c ≤ 9223372036854775807) (hP : PartAt w w.heap.size A ps) (hlen : ps.length ≤ 1048576) :
    Calls Try.prog 35 #[.func (.func 52) #[] #[.pointer (some ⟨Bv, 0, none⟩)], .func (.func 37) #[] #[]] w fun e w' => ∃ v, e = .returned v ∧ ∃ ps' : List Prt, ps'.Perm ps ∧ SortedP ps' ∧ OwnP w' w.heap.size v ps' ∧ Below w.heap.size w w' := by
  have H := Lib.hid (collect_any Bv A c ps w hBv hbox hlc hc hP hlen)
  clear hbox hP
  go_enter Try.func35, Try.ntmps35
  go_wp2_with fail
  refine H.out.mono ?_
  rintro e w1 ⟨v, rfl, hown, hb⟩
  have hown' : w1.ownsRow w.heap.size 38 2 v ps.length (ps.flatMap encP) := hown
  rcases hown'.2 with ⟨rfl, hn⟩ | ⟨g, cap, cur, rfl, hg, hgb, _⟩
  · obtain rfl : ps = [] := List.eq_nil_of_length_eq_zero hn
    go_wp2_with fail
    have hcon := AnyF.slices_SortFunc_none Try.sortP none 0 (.func (.func 37) #[] #[]) w1
    change Calls Try.prog 51 _ _ _ at hcon
    refine hcon.mono ?_
    rintro e w2 ⟨rfl, rfl⟩
    go_wp2_with fail
    go_ret
    exact ⟨_, rfl, [], List.Perm.refl _, List.Pairwise.nil, hown, hb⟩
  · go_wp2_with fail
    refine (sortFunc_any w.heap.size g cap ps w1 hown hlen).mono ?_
    rintro e w2 ⟨rfl, l', hperm, hsort, hown2, hgr⟩
    go_wp2_with fail
    go_ret
    refine ⟨_, rfl, l', hperm, hsort, hown2, hb.trans ((Below.refl _ w1).grown hgr hb.size (fun k e => by cases e; exact hg))⟩

theorem bytesN_inj {s t : ByteArray} (h : bytesN s = bytesN t) : s = t := by
  unfold bytesN at h
  have h1 : s.data.toList = t.data.toList := (List.map_inj_right (fun x y hxy => UInt8.toNat_inj.1 hxy)).1 h
  have h2 : s.data = t.data := Array.toList_inj.1 h1
  cases s; cases t
  simp only at h2
  rw [h2]
def seenB (S : List ByteArray) (x : ByteArray) : Bool := S.any fun s => bytesN s == bytesN x
theorem seenB_iff (S : List ByteArray) (x : ByteArray) : seenB S x = true ↔ x ∈ S := by
  unfold seenB
  rw [List.any_eq_true]
  constructor
  · rintro ⟨s, hs, he⟩
    have := bytesN_inj (by simpa using he)
    rw [← this]; exact hs
  · intro h
    exact ⟨x, h, by simp⟩
/-- The first error of parts, in the order of the list. -/
def chkAll : List Prt → List ByteArray → Int
  | [], _ => 0
  | p :: r, S => if chkP p ≠ 0 then chkP p else if seenB S p.1 = true then 7 else chkAll r (p.1 :: S)
def errE (l : List Prt) : Int := if 64 < l.length then 9 else chkAll l []
def dirOf (p : Prt) : List Nat := (p.1.size % 256 :: bytesN p.1) ++ put32 p.2.size ++ put32 (crcL (bytesN p.2))
def dirL (l : List Prt) : List Nat := l.flatMap dirOf
def headL (l : List Prt) : List Nat := [79, 66, 80, 49] ++ put32 (dirL l).length ++ put32 (ones ^^^ (dirL l).length) ++ dirL l
def dataL (l : List Prt) : List Nat := l.flatMap fun p => bytesN p.2
def encL (l : List Prt) : List Nat := headL l ++ put32 (crcL (headL l)) ++ dataL l

/-- A part's box. -/
def BoxP (w : World) (B : Nat) (x0 x1 : ByteArray) : Prop := w.heap[B]? = some (.cells #[.string x0, .string x1] 38 (0, 0))
section
variable {w w' : World} {B base : Nat} {x0 x1 : ByteArray} {v : Value} {l : List Nat}
theorem BoxP.c0 (h : BoxP w B x0 x1) : w.cell? ⟨B, 0, none⟩ = some (.string x0) := blk_cell h 0
theorem BoxP.c1 (h : BoxP w B x0 x1) : w.cell? ⟨B, 1, none⟩ = some (.string x1) := blk_cell h 1
theorem BoxP.over (h : BoxP w B x0 x1) (hb : Below w.heap.size w w') : BoxP w' B x0 x1 := (hb.block _ (lt_of_block h)).trans h
theorem BoxP.ne (h : BoxP w B x0 x1) (hown : OwnB w base v l) : some B ≠ v.ownBlock := by
  rcases hown.2 with ⟨rfl, _⟩ | ⟨g, cap, cur, rfl, _, hgb, _⟩
  · simp [Value.ownBlock]
  · intro e
    obtain rfl : B = g := by simpa [Value.ownBlock] using e
    have := (show w.heap[B]? = _ from h).symm.trans hgb
    simp at this
theorem BoxP.grown (h : BoxP w B x0 x1) (hown : OwnB w base v l) (hg : w.grownBy w' v.ownBlock) : BoxP w' B x0 x1 := (hg.block B (lt_of_block h) (h.ne hown)).trans h
theorem BoxP.alloc (h : BoxP w B x0 x1) (o : Obj) : BoxP (w.alloc o) B x0 x1 := (Below.heap_alloc _ _ _ (lt_of_block h)).trans h
/-- What lies below the base of a slice of bytes. -/
theorem OwnB.below (hown : OwnB w base v l) (hbase : base ≤ w.heap.size) (hg : w.grownBy w' v.ownBlock) : Below base w w' := by
  refine (Below.refl base w).grown hg hbase (fun k e => ?_)
  rcases hown.2 with ⟨rfl, _⟩ | ⟨g, cap, cur, rfl, hgb, _⟩
  · simp [Value.ownBlock] at e
  · simp only [Value.ownBlock, Option.some.injEq] at e
    omega
end
end Go.Proofs.Ytdnaifkcogadkaa
