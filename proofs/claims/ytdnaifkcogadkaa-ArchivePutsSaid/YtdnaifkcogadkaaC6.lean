/- Walk: slices.SortFunc over parts, by the library's contract. -/
import Derived.Shelf.SlSortCmp.NoneTotal
import Derived.Test.YtdnaifkcogadkaaC5
namespace Go.Proofs.Ytdnaifkcogadkaa
open Go.RowKit Go.Sort Go.Shelf

def Try.sortP_ren : Go.Shelf.Ren := ⟨fun | 6 => 51 | 15 => 59 | 14 => 58 | 28 => 68 | 29 => 69 | 20 => 60 | 21 => 61 | 22 => 62 | 23 => 63 | 24 => 64 | 25 => 65 | 26 => 66 | 27 => 67 | 46 => 70 | 47 => 71 | 48 => 72 | 49 => 73 | 50 => 74 | 57 => 75 | n => n, fun | 22 => 22 | 24 => 38 | 25 => 69 | 3 => 3 | 39 => 73 | 0 => 0 | 53 => 33 | 55 => 78 | 4 => 4 | 46 => 95 | 45 => 94 | 50 => 81 | 5 => 5 | 9 => 9 | 66 => 102 | 70 => 106 | 76 => 108 | 77 => 109 | n => n, fun | n => n⟩
theorem Try.sortP : Go.Proofs.SlLaysF0.n6 Try.prog Try.sortP_ren := {
  mixed := by kernel_rfl,
  f6 := ⟨Try.f51.name, by decide, Try.func51.trans (congrArg some (by kernel_rfl))⟩,
  f14 := ⟨Try.f58.name, by decide, Try.func58.trans (congrArg some (by kernel_rfl))⟩,
  f15 := Try.func59.trans (congrArg some (by kernel_rfl)),
  f20 := ⟨Try.f60.name, by decide, Try.func60.trans (congrArg some (by kernel_rfl))⟩,
  f21 := ⟨Try.f61.name, by decide, Try.func61.trans (congrArg some (by kernel_rfl))⟩,
  f22 := ⟨Try.f62.name, by decide, Try.func62.trans (congrArg some (by kernel_rfl))⟩,
  f23 := ⟨Try.f63.name, by decide, Try.func63.trans (congrArg some (by kernel_rfl))⟩,
  f24 := ⟨Try.f64.name, by decide, Try.func64.trans (congrArg some (by kernel_rfl))⟩,
  f25 := ⟨Try.f65.name, by decide, Try.func65.trans (congrArg some (by kernel_rfl))⟩,
  f26 := ⟨Try.f66.name, by decide, Try.func66.trans (congrArg some (by kernel_rfl))⟩,
  f27 := ⟨Try.f67.name, by decide, Try.func67.trans (congrArg some (by kernel_rfl))⟩,
  f28 := Try.func68.trans (congrArg some (by kernel_rfl)),
  f29 := Try.func69.trans (congrArg some (by kernel_rfl)),
  f46 := ⟨Try.f70.name, by decide, Try.func70.trans (congrArg some (by kernel_rfl))⟩,
  f47 := Try.func71.trans (congrArg some (by kernel_rfl)),
  f48 := Try.func72.trans (congrArg some (by kernel_rfl)),
  f49 := ⟨Try.f73.name, by decide, Try.func73.trans (congrArg some (by kernel_rfl))⟩,
  f50 := ⟨Try.f74.name, by decide, Try.func74.trans (congrArg some (by kernel_rfl))⟩,
  f57 := ⟨Try.f75.name, by decide, Try.func75.trans (congrArg some (by kernel_rfl))⟩,
  t0 := Try.underlying0,
  a0 := Try.isAgg0,
  z0 := Try.sizeOf0,
  v0 := Try.zeroValue0,
  t3 := Try.underlying3,
  a3 := Try.isAgg3,
  z3 := Try.sizeOf3,
  v3 := Try.zeroValue3,
  t4 := Try.underlying4,
  a4 := Try.isAgg4,
  z4 := Try.sizeOf4,
  v4 := Try.zeroValue4,
  t5 := Try.underlying5,
  a5 := Try.isAgg5,
  z5 := Try.sizeOf5,
  v5 := Try.zeroValue5,
  t9 := Try.underlying9,
  a9 := Try.isAgg9,
  z9 := Try.sizeOf9,
  v9 := Try.zeroValue9,
  t22 := Try.underlying22,
  a22 := Try.isAgg22,
  z22 := Try.sizeOf22,
  v22 := Try.zeroValue22,
  t25 := Try.underlying69,
  a25 := Try.isAgg69,
  z25 := Try.sizeOf69,
  v25 := Try.zeroValue69,
  t39 := Try.underlying73,
  a39 := Try.isAgg73,
  z39 := Try.sizeOf73,
  v39 := Try.zeroValue73,
  t45 := Try.underlying94,
  a45 := Try.isAgg94,
  z45 := Try.sizeOf94,
  v45 := Try.zeroValue94,
  t46 := Try.underlying95,
  a46 := Try.isAgg95,
  z46 := Try.sizeOf95,
  v46 := Try.zeroValue95,
  t50 := Try.underlying81,
  a50 := Try.isAgg81,
  z50 := Try.sizeOf81,
  v50 := Try.zeroValue81,
  t53 := Try.underlying33,
  a53 := Try.isAgg33,
  z53 := Try.sizeOf33,
  v53 := Try.zeroValue33,
  t55 := Try.underlying78,
  a55 := Try.isAgg78,
  z55 := Try.sizeOf78,
  v55 := Try.zeroValue78,
  t66 := Try.underlying102,
  a66 := Try.isAgg102,
  z66 := Try.sizeOf102,
  v66 := Try.zeroValue102,
  t70 := Try.underlying106,
  a70 := Try.isAgg106,
  z70 := Try.sizeOf106,
  v70 := Try.zeroValue106,
  t76 := Try.underlying108,
  a76 := Try.isAgg108,
  z76 := Try.sizeOf108,
  v76 := Try.zeroValue108,
  t77 := Try.underlying109,
  a77 := Try.isAgg109,
  z77 := Try.sizeOf109,
  v77 := Try.zeroValue109 }

theorem flat_eq (l : List Prt) : flatK encP 2 l.toArray = (l.flatMap encP).toArray := by
  apply Array.ext
  · rw [size_flatK]; simp [flatMap_length encP_length]
  · intro t h1 h2
    have ht : t < l.length * 2 := by simpa [size_flatK] using h1
    have hi : t / 2 < l.length := by omega
    have e1 := get_flatK encP 2 l.toArray t (by simpa using ht)
    rw [getElem!_pos _ t h1] at e1
    rw [e1]
    have e2 := flatMap_get encP_length l (t / 2) l[t / 2] (by simp)
    have e3 : l.toArray[t / 2]! = l[t / 2] := by
      rw [getElem!_pos _ _ (by simpa using hi)]; simp
    rw [e3]
    have e4 : t / 2 * 2 + t % 2 = t := by omega
    rcases Nat.mod_two_eq_zero_or_one t with hm | hm
    · have := e2 0 (.string l[t / 2].1) rfl
      rw [show t / 2 * 2 + 0 = t by omega] at this
      have h3 : (l.flatMap encP).toArray[t] = .string l[t / 2].1 := by
        have := (List.getElem?_eq_some_iff.1 this).2
        simpa using this
      rw [h3, hm]; rfl
    · have := e2 1 (.string l[t / 2].2) rfl
      rw [show t / 2 * 2 + 1 = t by omega] at this
      have h3 : (l.flatMap encP).toArray[t] = .string l[t / 2].2 := by
        have := (List.getElem?_eq_some_iff.1 this).2
        simpa using this
      rw [h3, hm]; rfl

theorem holds_own {w : World} {base g n cap : Nat} {l : List Prt} (h : OwnP w base (.slice (some ⟨g, 0, none⟩) n cap) l) : HoldsK encP 2 w g 0 l.toArray ∧ g < w.heap.size := by
  rcases h.2 with ⟨h0, _⟩ | ⟨g', cap', cur, hv, hg, hb, hn, hcap, hsz, ht⟩
  · cases h0
  cases hv
  refine ⟨?_, (Array.getElem?_eq_some_iff.1 hb).1⟩
  unfold HoldsK
  rw [flat_eq]
  intro j hj
  have hj' : j < (l.flatMap encP).length := by simpa using hj
  refine ⟨?_, by simp [World.frozen?, hb]⟩
  have h1 : (cur.toList.take (l.length * 2))[j]? = (l.flatMap encP)[j]? := by rw [ht]
  rw [List.getElem?_take_of_lt (by rw [flatMap_length encP_length] at hj'; exact hj')] at h1
  simp only [World.cell?, hb, Nat.zero_add]
  simp only [Option.isSome_none, Bool.false_eq_true, if_false]
  rw [← Array.getElem?_toList, h1, getElem!_pos _ j hj]
  simp

theorem grown_sorted {w : World} {g n : Nat} {os : Array Obj} (d : Array Prt) : w.grownBy (sortWorldK encP 2 w g 0 n d os) (some g) := by
  refine ⟨rfl, rfl, rfl, by simp [sortWorldK, putRowK], fun k hk hne => ?_⟩
  unfold sortWorldK putRowK
  rw [heap_grow_old _ _ (by simpa using hk)]
  have : g ≠ k := fun e => hne (by rw [e])
  simp [putRow, mapBlock, Sort.ahead, Array.getElem?_modify, this]

theorem own_sorted {w : World} {base g cap m n : Nat} {os : Array Obj} {l l' : List Prt} (h : OwnP w base (.slice (some ⟨g, 0, none⟩) m cap) l) (hl : l'.length = l.length) :
    OwnP (sortWorldK encP 2 w g 0 n l'.toArray os) base (.slice (some ⟨g, 0, none⟩) m cap) l' := by
  have h' : w.ownsRow base 38 2 (.slice (some ⟨g, 0, none⟩) m cap) l.length (l.flatMap encP) := h
  obtain ⟨hlen, hrest⟩ := h'
  rcases hrest with ⟨h0, _⟩ | ⟨g', cap', cur, hv, hg, hb, hn, hcap, hsz, ht⟩
  · cases h0
  cases hv
  have hgl : g < w.heap.size := (Array.getElem?_eq_some_iff.1 hb).1
  have hfl : (l'.flatMap encP).length = l.length * 2 := by rw [flatMap_length encP_length, hl]
  show World.ownsRow _ base 38 2 _ l'.length _
  rw [hl]
  refine ⟨by rw [hfl], .inr ⟨g, cap, putCells id 0 (l'.flatMap encP).toArray cur, rfl, hg, ?_, hn, hcap, by simp [putCells, hsz], ?_⟩⟩
  · unfold sortWorldK putRowK
    rw [flat_eq, heap_grow_old _ _ (by simpa using hgl)]
    simp [putRow, mapBlock, Sort.ahead, Array.getElem?_modify, hb, onCells]
  · apply List.ext_getElem?
    intro j
    by_cases hj : j < l.length * 2
    · rw [List.getElem?_take_of_lt hj, Array.getElem?_toList]
      have hjc : j < cur.size := by rw [hsz]; omega
      have hj2 : j < (l'.flatMap encP).length := by omega
      simp only [putCells, Array.getElem?_mapIdx, Array.getElem?_eq_getElem hjc, Option.map_some]
      rw [if_pos ⟨Nat.zero_le _, by rw [Nat.zero_add, List.size_toArray]; exact hj2⟩, List.getElem?_eq_getElem hj2]
      congr 1
      show (l'.flatMap encP).toArray[j - 0]! = _
      rw [Nat.sub_zero, getElem!_pos _ j (by simpa using hj2)]
      simp
    · rw [List.getElem?_take_eq_none (by omega), List.getElem?_eq_none (by omega)]

theorem ltOf_P (x y : Prt) : ltOf (fun x y : Prt => cmpS x.1 y.1) x y = ltP x y := by
  unfold ltOf ltP
  rw [decide_eq_decide]
  exact cmpS_neg x.1 y.1
theorem swoP : SWO (ltOf fun x y : Prt => cmpS x.1 y.1) where
  irrefl x := by rw [ltOf_P]; simp [ltP, List.lt_irrefl]
  trans x y z h1 h2 := by
    rw [ltOf_P] at *
    simp only [ltP, decide_eq_true_eq] at *
    exact List.lt_trans h1 h2
  ntrans x y z h1 h2 := by
    rw [ltOf_P] at *
    simp only [ltP, decide_eq_false_iff_not, List.not_lt] at *
    exact List.le_trans h2 h1
theorem cmpLaysP (blk off size : Nat) (w : World) : CmpLays Try.prog 37 #[] encP 2 (fun x y => cmpS x.1 y.1) blk off size w :=
  fun m os dk _ x y => (closure_any x y (sortWorldK encP 2 w blk off m dk os)).mono fun e w' ⟨he, hw⟩ => by
    refine ⟨he, 0, #[.cells #[.string x.1, .string x.2] 38, .cells #[.string y.1, .string y.2] 38], ?_⟩
    rw [hw, alloc_eq_grow, alloc_eq_grow, grow_grow]
    rfl

theorem sortFunc_any (base g cap : Nat) (l : List Prt) (w : World) (h : OwnP w base (.slice (some ⟨g, 0, none⟩) l.length cap) l) (hlen : l.length ≤ 1048576) :
    Calls Try.prog 51 #[.slice (some ⟨g, 0, none⟩) l.length cap, .func (.func 37) #[] #[]] w fun e w' => e = .returned (.tuple #[]) ∧ ∃ l' : List Prt, l'.Perm l ∧ SortedP l' ∧
      OwnP w' base (.slice (some ⟨g, 0, none⟩) l.length cap) l' ∧ w.grownBy w' (some g) := by
  obtain ⟨hH, hblk⟩ := holds_own h
  have eg : ∀ args w, (callFunc 37 args).run Try.prog w = .ok (.enter 37 args) w := enters_of Try.func37 (by kernel_rfl) rfl
  have hcon := AnyQ.slices_SortFunc Try.sortP 2 Try.isAgg38 Try.sizeOf38 encP (fun _ => rfl) (fun x v hv => by simp [encP] at hv; rcases hv with rfl | rfl <;> rfl) (fun x y => cmpS x.1 y.1) swoP 37 #[] g 0 cap l.toArray w eg (cmpLaysP g 0 _ w) hH hblk (by simp; omega)
  change Calls Try.prog 51 _ _ _ at hcon
  simp only [List.size_toArray] at hcon
  refine hcon.mono fun e w' hpost => ?_
  obtain ⟨he, d', n, os, hp, hs, hw⟩ := hpost
  obtain ⟨hsz, _, hperm⟩ := hp
  have hsz' : d'.toList.length = l.length := by simpa using hsz
  have hpm : d'.toList.Perm l := by
    have e1 : (d'.extract 0 l.length).toList = d'.toList := by
      rw [Array.toList_extract]
      simp only [List.extract_eq_take_drop, List.drop_zero, Nat.sub_zero]
      exact List.take_of_length_le (by omega)
    rw [e1] at hperm
    have e2 : (l.toArray.extract 0 l.length).toList = l := by
      rw [Array.toList_extract]
      simp
    rw [e2] at hperm
    exact hperm
  refine ⟨he, d'.toList, hpm, ?_, ?_, ?_⟩
  · unfold SortedP
    rw [List.pairwise_iff_getElem]
    intro i j hi hj hij
    have := hs i j (Nat.zero_le _) hij (by omega)
    rw [ltOf_P, getElem!_pos _ j (by simpa using hj), getElem!_pos _ i (by simpa using hi)] at this
    simpa [ltP] using this
  · rw [hw]
    have := own_sorted (n := n) (os := os) h hsz'
    simpa using this
  · rw [hw]
    exact grown_sorted d'
end Go.Proofs.Ytdnaifkcogadkaa
