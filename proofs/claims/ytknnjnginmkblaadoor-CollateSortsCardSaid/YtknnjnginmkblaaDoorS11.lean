/- Walk: the law on sorting. -/
import Derived.Test.YtknnjnginmkblaaDoorS8
import Derived.Test.YtknnjnginmkblaaDoorR4
import Derived.Deep.RegionHeldLaw
namespace Go.Proofs.YtknnjnginmkblaaDoor
open Go.RowKit

/-- What the comparison's region loads. -/
def KeepC (g : Nat) (st : Int) (num ign up : Bool) (p q : Addr) (x y : ByteArray) (w : World) : Prop := BoxG g st num ign up w ∧ w.cell? p = some (.string x) ∧ w.cell? q = some (.string y)
theorem KeepC.over {g : Nat} {st : Int} {num ign up : Bool} {p q : Addr} {x y : ByteArray} {w w' : World} (h : KeepC g st num ign up p q x y w) (hb : Below w.heap.size w w') : KeepC g st num ign up p q x y w' :=
  ⟨h.1.over hb, cell_over h.2.1 hb, cell_over h.2.2 hb⟩
theorem KeepC.all {g : Nat} {st : Int} {num ign up : Bool} {p q : Addr} {x y : ByteArray} {w : World} (h : KeepC g st num ign up p q x y w) :
    w.cell? ⟨g, 0, none⟩ = some (.int .i64 st) ∧ w.cell? ⟨g, 1, none⟩ = some (.bool num) ∧ w.cell? ⟨g, 2, none⟩ = some (.bool ign) ∧ w.cell? ⟨g, 3, none⟩ = some (.bool up) ∧ w.cell? p = some (.string x) ∧ w.cell? q = some (.string y) ∧ KeepC g st num ign up p q x y w := ⟨h.1.1, h.1.2.1, h.1.2.2.1, h.1.2.2.2, h.2.1, h.2.2, h⟩
def KeepY (p : Addr) (y : ByteArray) (w : World) : Prop := w.cell? p = some (.string y)
theorem KeepY.over {p : Addr} {y : ByteArray} {w w' : World} (h : KeepY p y w) (hb : Below w.heap.size w w') : KeepY p y w' := cell_over h hb
theorem KeepY.all {p : Addr} {y : ByteArray} {w : World} (h : KeepY p y w) : w.cell? p = some (.string y) ∧ KeepY p y w := ⟨h, h⟩
theorem own_off {α : Type} {enc : α → List Value} {sz : Nat} {E : TypeId} {w : World} {base b o n c : Nat} {l : List α} (h : Own enc sz E w base (.slice (some ⟨b, o, none⟩) n c) l) : o = 0 := by
  have h1 : w.ownsRow base E sz _ l.length (l.flatMap enc) := h
  rcases h1.2 with ⟨e, _⟩ | ⟨g, cap, cur, e, _⟩
  · cases e
  · injection e with e _ _
    injection e with e
    injection e with _ e _

theorem own_take {w : World} {base g n c : Nat} {l : List ByteArray} (h : Own encS 1 9 w base (.slice (some ⟨g, 0, none⟩) n c) l) (_he : ∀ x, (encS x).length = 1) (a : Nat) : ∀ j u, ((l.take a).flatMap encS)[j]? = some u → w.cell? ⟨g, j, none⟩ = some u := by
  intro j u hu
  have h1 : w.ownsRow base 9 1 _ l.length (l.flatMap encS) := h
  have := h1.cells (g := g) rfl j u (by
    rw [← List.take_append_drop a l, List.flatMap_append, List.getElem?_append_left (List.getElem?_eq_some_iff.1 hu).1]
    exact hu)
  rwa [addr_add, Nat.zero_add] at this
theorem own_addr {w : World} {base n c : Nat} {A : Option Addr} {l : List ByteArray} (h : Own encS 1 9 w base (.slice A n c) l) (h0 : 0 < n) : ∃ b, A = some ⟨b, 0, none⟩ := by
  have h1 : w.ownsRow base 9 1 _ l.length (l.flatMap encS) := h
  rcases h1.2 with ⟨e, _⟩ | ⟨g, cap, cur, e, _⟩
  · injection e with _ e _
    omega
  · injection e with e _ _
    exact ⟨g, e⟩
theorem own_apart {w : World} {base g n c : Nat} {l : List ByteArray} (h : Own encS 1 9 w base (.slice (some ⟨g, 0, none⟩) n c) l) : g < w.heap.size := h.block_lt g rfl
theorem lit_below {w w3 : World} {o : Obj} {c : Nat} (hg : (w.alloc o).drew.grownBy w3 (Value.ownBlock (.slice (some ⟨w.heap.size, 0, none⟩) 1 c))) : Below w.heap.size w w3 :=
  (((Below.refl _ w).alloc (Nat.le_refl _) o).drew).grown hg (by show w.heap.size ≤ (w.alloc o).heap.size; simp) (fun k e => by simp only [Value.ownBlock, Option.some.injEq] at e; omega)
theorem take_kept {w w3 : World} {o : Obj} {c g : Nat} {L : List Value} (h : ∀ j u, L[j]? = some u → (w.alloc o).drew.cell? ⟨g, j, none⟩ = some u) (hg : (w.alloc o).drew.grownBy w3 (Value.ownBlock (.slice (some ⟨w.heap.size, 0, none⟩) 1 c))) (hlt : g < w.heap.size) :
    ∀ j u, L[j]? = some u → w3.cell? ⟨g, j, none⟩ = some u := fun j u hu => hg.cell (h j u hu) (by simp only [Value.ownBlock, ne_eq, Option.some.injEq]; omega)

set_option maxRecDepth 100000 in
set_option maxHeartbeats 16000000 in
theorem sorts_any (v : Value) (Ls : List ByteArray) (o : Opt) (w : World) (hv : Sl encS 1 w w.heap.size v Ls) :
    Calls Tryd.prog 13 #[v, optV o] w fun e w' => e = .returned (.bool true) ∧ Below w.heap.size w w' := by
  obtain ⟨i1, hi9, hy0, hy1, hy2⟩ := info_parts info9
  obtain ⟨A, cap, rfl, hlc, hcm, _⟩ := id hv
  unfold maxLen at hcm
  obtain ⟨m, hm⟩ : ∃ m, m = min Ls.length 40 := ⟨_, rfl⟩
  obtain ⟨n, hn⟩ : ∃ n, n = Ls.length := ⟨_, rfl⟩
  have hv2 : Sl encS 1 w w.heap.size (.slice A m cap) (Ls.take 40) := by have := Sl.take hv 40 A _ cap rfl; rw [← hm] at this; exact this
  obtain ⟨l, hl⟩ : ∃ l, l = Ls.take 40 := ⟨_, rfl⟩
  rw [← hl] at hv2
  have hlm : l.length = m := by rw [hl, hm, List.length_take, Nat.min_comm]
  obtain ⟨I, hI⟩ : ∃ I, I = l.map cutS := ⟨_, rfl⟩
  have hIm : I.length = m := by rw [hI, List.length_map, hlm]
  have h40 : m ≤ 40 := by omega
  have hsz : ∀ s ∈ I, s.size ≤ 200 := by
    intro s hs
    rw [hI] at hs
    obtain ⟨t, _, rfl⟩ := List.mem_map.1 hs
    exact cutS_size t
  have HCUT : Hid (∀ (k : Nat) (s : ByteArray), l[k]? = some s → ∃ c, I[k]? = some c ∧ ∀ w : World, Calls Tryd.prog 14 #[.string s] w fun e w' => e = .returned (.string c) ∧ w = w') := Lib.hid (fun k s hs => ⟨cutS s, by rw [hI, List.getElem?_map, hs]; rfl, fun w => cut_lib s w⟩)
  have CSORT := Lib.hid (fun (u : Value) (w : World) (h : Sl encS 1 w w.heap.size u I) => sort_lib o u I w h (by omega))
  have CF : Hid (∀ (u : Value) (w : World), Sl encS 1 w w.heap.size u I → Calls Tryd.prog 17 #[optV o, u] w fun e w' => e = .returned (.int .i64 (errC o I)) ∧ Below w.heap.size w w') := Lib.hid (fun u w h => fault_lib o u I w h (fun s hs => by have := hsz s hs; omega))
  have CO := Lib.hid (options_lib o)
  obtain ⟨K, hK⟩ : ∃ K, K = keyB o := ⟨_, rfl⟩
  have RC : Hid (errC o I = 0 → ∀ x ∈ I, ∀ y ∈ I, ∀ w : World, Calls Tryd.prog 21 #[.string x, .string y, optV o] w fun e w' => e = .returned (.int .i64 (cfK K x y)) ∧ Below w.heap.size w w') := Lib.hid (fun h x hx y hy w => by
    have hxy : errC o [x, y] = 0 := errC_sub h (by intro s hs; simp only [List.mem_cons, List.not_mem_nil, or_false] at hs; rcases hs with rfl | rfl <;> assumption)
    have h2 := rcompare_lib x y o w hxy
    have h3 : cmpR o x y = cfK K x y := by
      rw [cmpR_key hxy, hK]
      unfold keyR cfK keyB
      rw [if_pos (errC_sub hxy (by simp)), if_pos (errC_sub hxy (by simp))]
    rw [h3] at h2
    exact h2)
  have HFIN : Hid (∀ D Z : List Dec, D.map Prod.snd = I → (∀ d ∈ D, bytesN d.1 = keyB o d.2) → Srt cfD Z → Same cfD D Z → Z.map Prod.snd = I.foldl (fun acc y => insS (cfK K) y acc) []) := Lib.hid (fun D Z h1 h2 h3 h4 => by rw [hK]; exact sorted_same h1 h2 h3 h4)
  have CKN := Lib.hid known_lib
  obtain ⟨E, hE⟩ : ∃ E, E = errC o I := ⟨_, rfl⟩
  rw [← hE] at CSORT CF RC
  have HV := Lib.hid hv2
  have HLM := Lib.hid hlm
  have HIM := Lib.hid hIm
  rw [← hn] at hlc ⊢
  have em : (if (40 : Int) < (n : Int) then (40 : Int) else (n : Int)) = (m : Int) := by
    by_cases h : 40 < n
    · rw [if_pos (by omega)]; omega
    · rw [if_neg (by omega)]; omega
  have hmc : m ≤ cap := by omega
  have hmc2 : (m : Int) ≤ (cap : Int) := by omega
  clear hv hv2 hlm hIm hm hn hl hI hsz hE hK
  obtain ⟨st, num, ign, up⟩ := o
  change Hid (∀ (u : Value) (w : World), Sl encS 1 w w.heap.size u I → Calls Tryd.prog 17 #[.agg #[.int .i64 st, .bool num, .bool ign, .bool up], u] w fun e w' => e = .returned (.int .i64 E) ∧ Below w.heap.size w w') at CF
  change Hid (∀ (u : Value) (w : World), Sl encS 1 w w.heap.size u I → Calls Tryd.prog 33 #[u, .agg #[.int .i64 st, .bool num, .bool ign, .bool up]] w (SrtE ⟨st, num, ign, up⟩ I w E)) at CSORT
  change Hid (∀ w : World, Calls Tryd.prog 19 #[.agg #[.int .i64 st, .bool num, .bool ign, .bool up]] w fun e w' => e = .returned (.agg #[.int .i64 st, .bool num, .bool ign, .bool up]) ∧ Below w.heap.size w w') at CO
  change Hid (E = 0 → ∀ x ∈ I, ∀ y ∈ I, ∀ w : World, Calls Tryd.prog 21 #[.string x, .string y, .agg #[.int .i64 st, .bool num, .bool ign, .bool up]] w fun e w' => e = .returned (.int .i64 (cfK K x y)) ∧ Below w.heap.size w w') at RC
  show Calls Tryd.prog 13 #[.slice A n cap, .agg #[.int .i64 st, .bool num, .bool ign, .bool up]] w _
  go_enter Tryd.func13, Tryd.ntmps13
  go_upto_region 1 with fail
  have B0 : BoxG w.heap.size st num ign up (w.alloc (.cells #[.int .i64 st, .bool num, .bool ign, .bool up] 23)) := BoxG.new w st num ign up
  have b0 : Below w.heap.size w (w.alloc (.cells #[.int .i64 st, .bool num, .bool ign, .bool up] 23)) := (Below.refl w.heap.size w).alloc (Nat.le_refl _) _
  obtain ⟨w0, hw0⟩ : ∃ w0, w0 = w.alloc (.cells #[.int .i64 st, .bool num, .bool ign, .bool up] 23) := ⟨_, rfl⟩
  rw [← hw0] at B0 b0 ⊢
  clear hw0
  have hw00 := b0.size
  go_wp2_with fail
  go_loopw [5, 6] (fun pv iv wr => ∃ i : Nat, i ≤ m ∧ iv = .int .i64 (i : Int) ∧ Own encS 1 9 wr w0.heap.size pv (I.take i) ∧ Below w0.heap.size w0 wr) (fun _ iv _ => m - (intOf iv).toNat)
  case atStart => exact ⟨0, Nat.zero_le _, rfl, Own.nil _ _, Below.refl _ _⟩
  case round =>
    obtain ⟨i, hi, rfl, hown, hb⟩ := hrel
    have hbz := hb.size
    have bw := b0.trans (hb.mono hw00)
    by_cases hlt : i < m
    · have hlt' : (i : Int) < (m : Int) := by omega
      obtain ⟨s, hs⟩ : ∃ s, l[i]? = some s := ⟨l[i]'(by rw [HLM.out]; exact hlt), by simp⟩
      obtain ⟨b, of, hA, hbB, cs⟩ := Strs.at (HV.out.over bw) i s hs
      subst hA
      obtain ⟨c, hc, CC⟩ := HCUT.out i s hs
      have CC2 := Lib.hid (CC wr)
      have HT : Hid (I.take (i + 1) = I.take i ++ [c]) := Lib.hid (by rw [List.take_add_one, hc]; rfl)
      have hlen : (I.take i).length = i := by rw [List.length_take, HIM.out]; omega
      have hown2 := hown.alloc (.cells #[.string c] 9)
      have hb2 := hb.alloc hbz (.cells #[.string c] 9)
      have hbase2 := hb2.size
      have hcell : ∀ j u, (encS c)[j]? = some u → (wr.alloc (.cells #[.string c] 9)).cell? ⟨wr.heap.size, j, none⟩ = some u := cells_new wr [.string c] 9
      clear hs CC hc hown em
      go_wp2_with fail
      refine CC2.out.mono ?_
      rintro e w2 ⟨rfl, rfl⟩
      go_wp2_with (at_builtin; refine wpList_push _ rfl _ _ 47 rfl w0.heap.size 9 i1 _ 1 16 Tryd.underlying47 hi9 hy0 hy1 hy2 rfl (by decide) (fun _ => rfl) encS_each _ _ rfl hown2 wr.heap.size 1 c rfl hcell (by omega) (by omega) hbase2 ?_; intro v' w6 hown' hg)
      have hb6 := hb2.trans (hown2.belowG hbase2 hg)
      clear hg hown2 hb2 hcell
      go_wp2_with fail
      go_roundw
      case rel => exact ⟨i + 1, by omega, by go_num, by rw [HT.out]; exact hown', hb6⟩
      case measure => simp [intOf]; omega
    · obtain rfl : i = m := by omega
      have hlt' : ¬ (i : Int) < (i : Int) := by omega
      rw [List.take_of_length_le (by rw [HIM.out]; exact Nat.le_refl _)] at hown
      obtain ⟨Ai, ci, rfl, hic, hicm⟩ := hown.shape
      rw [HIM.out] at hown hic ⊢
      have HIN := Lib.hid (hown.sl (fun _ => rfl))
      have CS2 := Lib.hid (CSORT.out _ wr HIN.out)
      have BG := B0.over hb
      obtain ⟨c0, c1, c2, c3⟩ := id BG
      clear hown CSORT B0 hb hbz em HCUT HV HLM
      go_wp2_with fail
      refine CS2.out.mono ?_
      rintro e w2 ⟨ov, rfl, ho1, ho2, b2⟩
      have HO1 := Lib.hid ho1
      have BG2 := BG.over b2
      have IN2 := Lib.hid (HIN.out.over b2)
      have bw2 := bw.trans (b2.mono bw.size)
      clear HIN BG bw b2 ho1 CS2 c0 c1 c2 c3
      go_wp2_with fail
      refine (CKN.out _).mono ?_
      rintro e w3 ⟨rfl, b3⟩
      have BG3 := BG2.over b3
      have IN3 := Lib.hid (IN2.out.over b3)
      have OV3 := Lib.hid (fun h => by obtain ⟨D, Z, k1, k2, k3, k4, k5, k6⟩ := HO1.out h; exact (⟨Z, HFIN.out D Z k1 k2 k3 k4, k5, k6.over b3⟩ : ∃ Z : List Dec, Z.map Prod.snd = I.foldl (fun acc y => insS (cfK K) y acc) [] ∧ Z.length = I.length ∧ Sl encS 1 w3 w3.heap.size ov (Z.map Prod.snd)))
      have bw3 := bw2.trans (b3.mono bw2.size)
      obtain ⟨c0, c1, c2, c3⟩ := id BG3
      have CF2 := Lib.hid (CF.out _ w3 IN3.out)
      clear CKN BG2 IN2 bw2 b3 HO1 CF HFIN
      go_wp2_with fail
      refine CF2.out.mono ?_
      rintro e w4 ⟨rfl, b4⟩
      have BG4 := BG3.over b4
      have IN4 := Lib.hid (IN3.out.over b4)
      have bw4 := bw3.trans (b4.mono bw3.size)
      by_cases h0 : E = 0
      · subst h0
        obtain ⟨Z, z1, z2, z3⟩ := OV3.out rfl
        obtain ⟨S, hS⟩ : ∃ S, S = Z.map Prod.snd := ⟨_, rfl⟩
        have hSl : S.length = i := by rw [hS, List.length_map, z2]; exact HIM.out
        have OV4 : Hid (Sl encS 1 w4 w4.heap.size ov S) := Lib.hid (by rw [hS]; exact z3.over b4)
        have HSF : Hid (S = I.foldl (fun acc y => insS (cfK K) y acc) []) := Lib.hid (by rw [hS]; exact z1)
        have HRC := Lib.hid (RC.out rfl)
        have HSL := Lib.hid hSl
        have hw4 := bw4.size
        obtain ⟨Ao, co, rfl, _, _⟩ := id OV4.out
        rw [hSl] at OV4 ⊢
        clear OV3 z1 z2 z3 hS RC BG3 IN3 bw3 b4 CF2 c0 c1 c2 c3 ho2 hSl
        go_wp2_with fail
        go_loopw [10, 11] (fun pv iv wr => ∃ (j : Nat) (W : List ByteArray), j ≤ i ∧ iv = .int .i64 (j : Int) ∧ W.length = j ∧ (j = 0 → pv = .slice none 0 0) ∧ Hid (W = (I.take j).foldl (fun acc y => insS (cfK K) y acc) [] ∧ ∀ x ∈ W, x ∈ I) ∧ Own encS 1 9 wr w4.heap.size pv W ∧ Below w4.heap.size w4 wr) (fun _ iv _ => i - (intOf iv).toNat)
        case atStart => exact ⟨0, [], Nat.zero_le _, rfl, rfl, fun _ => rfl, Lib.hid ⟨rfl, fun x hx => by cases hx⟩, Own.nil _ _, Below.refl _ _⟩
        case round =>
          obtain ⟨j, W, hj, rfl, hWj, hnil, HW, hown, hb⟩ := hrel
          have hbz := hb.size
          by_cases hlt2 : j < i
          · have hlt2' : (j : Int) < (i : Int) := by omega
            obtain ⟨y, hy⟩ : ∃ y, I[j]? = some y := ⟨I[j]'(by rw [HIM.out]; exact hlt2), by simp⟩
            have hyI := List.mem_of_getElem? hy
            obtain ⟨bi, oi, hAi, hbB, cy⟩ := Strs.at (IN4.out.over hb) j y hy
            subst hAi
            have HN : Hid (∀ a : Nat, a ≤ j → (∀ x ∈ W.drop a, 0 < cfK K x y) → (a = 0 ∨ ¬ 0 < cfK K W[a - 1]! y) → (W.take a ++ ([y] ++ W.drop a)).length = j + 1 ∧ (W.take a ++ ([y] ++ W.drop a)) = (I.take (j + 1)).foldl (fun acc y => insS (cfK K) y acc) [] ∧ ∀ x ∈ W.take a ++ ([y] ++ W.drop a), x ∈ I) := Lib.hid (fun a ha h1 h2 => by
              have e := ins_at (cf := cfK K) (W := W) (a := a) (y := y) (by omega) h1 h2
              refine ⟨by simp only [List.length_append, List.length_take, List.length_drop, List.length_singleton]; omega, ?_, fun x hx => ?_⟩
              · rw [List.take_add_one, hy, List.foldl_append]
                show _ = insS (cfK K) y ((I.take j).foldl (fun acc y => insS (cfK K) y acc) [])
                rw [← HW.out.1, e]
                rfl
              · rcases List.mem_append.1 hx with hx | hx
                · exact HW.out.2 x (List.mem_of_mem_take hx)
                · rcases List.mem_append.1 hx with hx | hx
                  · rw [List.mem_singleton.1 hx]; exact hyI
                  · exact HW.out.2 x (List.mem_of_mem_drop hx))
            obtain ⟨Aw, cw, rfl, hwc, hwcm⟩ := hown.shape
            rw [hWj] at hown hwc ⊢
            obtain ⟨wj, hwj⟩ : ∃ wj, wj = wr := ⟨_, rfl⟩
            have hbj : Below wj.heap.size wj wr := by rw [hwj]; exact Below.refl _ _
            have HI0 : Hid (∀ x ∈ W.drop j, 0 < cfK K x y) := Lib.hid (by rw [List.drop_eq_nil_of_le (by omega)]; intro x hx; cases hx)
            have hownj : Own encS 1 9 wj w4.heap.size (.slice Aw j cw) W := by rw [hwj]; exact hown
            have hbj4 : Below w4.heap.size w4 wj := by rw [hwj]; exact hb
            have cyj : wj.cell? ⟨bi, oi + j, none⟩ = some (.string y) := by rw [hwj]; exact cy
            clear hown hb cy hbz hwj hy
            go_wp2_with fail
            go_loopw [12] (fun av wr => ∃ a : Nat, a ≤ j ∧ av = .int .i64 (a : Int) ∧ Hid (∀ x ∈ W.drop a, 0 < cfK K x y) ∧ Below wj.heap.size wj wr) (fun av _ => (intOf av).toNat)
            case atStart => exact ⟨j, Nat.le_refl _, rfl, HI0, hbj⟩
            case round =>
              obtain ⟨a, ha, rfl, HA, hba⟩ := hrel
              clear HI0 hbj
              have cya := cell_over cyj hba
              have BGa := BG4.over (hbj4.trans (hba.mono hbj4.size))
              have howna := hownj.over hba
              have hb4a : Below w4.heap.size w4 wr := hbj4.trans (hba.mono hbj4.size)
              by_cases hpos : 0 < a
              · have hpos' : (0 : Int) < (a : Int) := by omega
                have dpos : decide ((0 : Int) < (a : Int)) = true := by simpa using hpos
                obtain ⟨k, hk⟩ : ∃ k, a = k + 1 := ⟨a - 1, by omega⟩
                have ek : IntKind.i64.wrap ((a : Int) - 1) = (k : Int) := by rw [IntWalk.i64_in _ (by omega)]; omega
                obtain ⟨x, hx⟩ : ∃ x, W[k]? = some x := ⟨W[k]'(by omega), by simp⟩
                obtain ⟨bw9, ow9, hAw, _, cx⟩ := Strs.at (howna.sl (fun _ => rfl)) k x hx
                subst hAw
                have lk : (k : Int) < (j : Int) := by omega
                have KC : KeepC w.heap.size st num ign up ⟨bw9, ow9 + k, none⟩ ⟨bi, oi + j, none⟩ x y wr := ⟨BGa, cx, cya⟩
                have HC := Lib.hid (HRC.out x (HW.out.2 x (List.mem_of_getElem? hx)) y hyI)
                have hxv : W[k]! = x := by rw [List.getElem!_eq_getElem?_getD, hx]; rfl
                have hdk : W.drop k = x :: W.drop a := by rw [hk, List.drop_eq_getElem_cons (by omega), (List.getElem?_eq_some_iff.1 hx).2]
                obtain ⟨z, hz⟩ : ∃ z, z = cfK K x y := ⟨_, rfl⟩
                rw [← hz] at HC
                have HZ : Hid (z = cfK K W[a - 1]! y) := Lib.hid (by rw [hk, show k + 1 - 1 = k by omega, hxv]; exact hz)
                have HDK : Hid (0 < z → ∀ x' ∈ W.drop k, 0 < cfK K x' y) := Lib.hid (fun h x' hx' => by
                  rw [hdk] at hx'
                  rcases List.mem_cons.1 hx' with rfl | hx'
                  · rw [← hz]; exact h
                  · exact HA.out x' hx')
                have hka : k < a := by omega
                have HKA := Lib.hid hk
                obtain ⟨c0, c1, c2, c3⟩ := id BGa
                clear hx hxv hdk hz hk BGa
                by_cases h0 : 0 < z
                · have d0 : decide (0 < z) = true := by simpa using h0
                  have HDK2 := Lib.hid (HDK.out h0)
                  go_wp2_with fail
                  go_region_held3 (fun w' => w'.cell? ⟨w.heap.size, 0, none⟩ = some (.int .i64 st) ∧ w'.cell? ⟨w.heap.size, 1, none⟩ = some (.bool num) ∧ w'.cell? ⟨w.heap.size, 2, none⟩ = some (.bool ign) ∧ w'.cell? ⟨w.heap.size, 3, none⟩ = some (.bool up) ∧ w'.cell? ⟨bw9, ow9 + k, none⟩ = some (.string x) ∧ w'.cell? ⟨bi, oi + j, none⟩ = some (.string y) ∧ KeepC w.heap.size st num ign up ⟨bw9, ow9 + k, none⟩ ⟨bi, oi + j, none⟩ x y w') (first
                    | exact KeepC.all KC
                    | (go_split_ands; exact KeepC.all (KeepC.over (by assumption) bx1))
                    | (go_split_ands; exact KeepC.all (KeepC.over (by assumption) bx2)))
                    (first
                    | (go_at_call 19; (with_reducible refine (CO.out _).mono ?_); rintro e wx1 ⟨rfl, bx1⟩)
                    | (go_at_call 21; (with_reducible refine (HC.out _).mono ?_); rintro e wx2 ⟨rfl, bx2⟩))
                  have bxr : Below wr.heap.size wr wx2 := ((Below.refl _ wr).drew.trans bx1).trans (bx2.mono bx1.size)
                  have bxa : Below wj.heap.size wj wx2 := hba.trans (bxr.mono hba.size)
                  clear HC KC c0 c1 c2 c3 cx cya HA HDK bx1 bx2
                  go_wp2_with fail
                  go_roundw
                  case rel => exact ⟨k, by omega, by go_num, HDK2, bxa⟩
                  case measure => simp [intOf]; omega
                · have d0 : decide (0 < z) = false := by simpa using h0
                  have HNA := Lib.hid (HN.out a ha HA.out (.inr (by rw [← HZ.out]; omega)))
                  go_wp2_with fail
                  go_region_held3 (fun w' => w'.cell? ⟨w.heap.size, 0, none⟩ = some (.int .i64 st) ∧ w'.cell? ⟨w.heap.size, 1, none⟩ = some (.bool num) ∧ w'.cell? ⟨w.heap.size, 2, none⟩ = some (.bool ign) ∧ w'.cell? ⟨w.heap.size, 3, none⟩ = some (.bool up) ∧ w'.cell? ⟨bw9, ow9 + k, none⟩ = some (.string x) ∧ w'.cell? ⟨bi, oi + j, none⟩ = some (.string y) ∧ KeepC w.heap.size st num ign up ⟨bw9, ow9 + k, none⟩ ⟨bi, oi + j, none⟩ x y w') (first
                    | exact KeepC.all KC
                    | (go_split_ands; exact KeepC.all (KeepC.over (by assumption) bx1))
                    | (go_split_ands; exact KeepC.all (KeepC.over (by assumption) bx2)))
                    (first
                    | (go_at_call 19; (with_reducible refine (CO.out _).mono ?_); rintro e wx1 ⟨rfl, bx1⟩)
                    | (go_at_call 21; (with_reducible refine (HC.out _).mono ?_); rintro e wx2 ⟨rfl, bx2⟩))
                  have bxr : Below wr.heap.size wr wx2 := ((Below.refl _ wr).drew.trans bx1).trans (bx2.mono bx1.size)
                  have bxa : Below wj.heap.size wj wx2 := hba.trans (bxr.mono hba.size)
                  have KY := cell_over cya bxr
                  have hown9 := howna.over bxr
                  have hb9 := hb4a.trans (bxr.mono hb4a.size)
                  clear HC KC c0 c1 c2 c3 cx cya HA HDK bx1 bx2 bxr bxa
                  have hz9 := own_off hown9
                  subst hz9
                  have ha9 : (a : Int) ≤ (cw : Int) := by omega
                  have ha8 : (a : Int) ≤ (j : Int) := by omega
                  have hla : (W.take a).length = a := by rw [List.length_take]; omega
                  have hld : (W.drop a).length = j - a := by rw [List.length_drop]; omega
                  by_cases hcw : a = cw
                  · obtain rfl : a = j := by omega
                    subst hcw
                    have HY : KeepY ⟨bi, oi + a, none⟩ y wx2 := KY
                    have HLIT : Own encS 1 9 (wx2.alloc (.cells #[.string y] 9)).drew w4.heap.size (.slice (some ⟨wx2.heap.size, 0, none⟩) 1 1) [y] := Own.lit1 (enc := encS) (fun _ => rfl) wx2 _ hb9.size y
                    have HB1 : Below w4.heap.size w4 (wx2.alloc (.cells #[.string y] 9)).drew := (hb9.alloc hb9.size _).drew
                    have HOW : Own encS 1 9 (wx2.alloc (.cells #[.string y] 9)).drew w4.heap.size (.slice (some ⟨bw9, 0, none⟩) a a) W := hown9.alloc _
                    have HSD : Sl encS 1 (wx2.alloc (.cells #[.string y] 9)).drew (wx2.alloc (.cells #[.string y] 9)).drew.heap.size (.slice (some ⟨bw9, 0, none⟩) 0 0) (W.drop a) := ⟨_, 0, by rw [List.drop_eq_nil_of_le (by omega)]; rfl, by rw [List.drop_eq_nil_of_le (by omega)]; simp, by simp [maxLen], fun h => by rw [List.drop_eq_nil_of_le (by omega)] at h; simp at h⟩
                    have HTK : ∀ j u, ((W.take a).flatMap encS)[j]? = some u → (wx2.alloc (.cells #[.string y] 9)).drew.cell? ⟨bw9, j, none⟩ = some u := own_take HOW (fun _ => rfl) a
                    have HAP := own_apart hown9
                    have hs1 : (1 : Nat) + (W.drop a).length ≤ 41 := by rw [hld]; omega
                    have hs2 : (W.take a).length + ([y] ++ W.drop a).length ≤ 82 := by rw [List.length_append, hla, hld, List.length_singleton]; omega
                    go_upto_region 20 with fail
                    go_region_held_law (fun w' => w'.cell? ⟨bi, oi + a, none⟩ = some (.string y) ∧ KeepY ⟨bi, oi + a, none⟩ y w') (first
                      | exact KeepY.all HY
                      | (go_split_ands; exact KeepY.all (by assumption))
                      | exact KeepY.all (KeepY.over HY (((Below.refl _ wx2).alloc (Nat.le_refl _) _).drew))
                      | exact KeepY.all (KeepY.over HY hb6)
                      | exact KeepY.all (KeepY.over HY hb8))
                      (first
                      | (refine step_app (by rfl) _ _ 47 (by rfl) w4.heap.size 9 i1 _ 1 16 Tryd.underlying47 hi9 hy0 hy1 hy2 (by rfl) (by decide) (fun _ => rfl) encS_each _ [y] (by rfl) HLIT _ _ (W.drop a) (by rfl) HSD (by rw [List.length_singleton]; omega) (by rw [List.length_singleton]; omega) HB1.size ?_; intro v3 w3 hown3 hg3; have hb6 : Below wx2.heap.size wx2 w3 := lit_below hg3; have HTK3 := take_kept HTK hg3 HAP)
                      | (refine step_grows (by rfl) _ _ 47 (by rfl) 9 i1 _ 1 16 Tryd.underlying47 hi9 hy0 hy1 hy2 (by rfl) (by decide) (fun _ => rfl) bw9 a (W.take a) (by rfl) hla.symm HTK3 _ _ ([y] ++ W.drop a) (by rfl) hown3 (by simp) (by omega) (by omega) ?_; intro v4 w6 hown6 hg6; have hb8 : Below wx2.heap.size wx2 w6 := hb6.grown hg6 hb6.size (fun k e => by cases e)))
                    have hb10 : Below w4.heap.size w4 w6 := hb9.trans (hb8.mono hb9.size)
                    have hown10 := hown6.lower (show w4.heap.size ≤ w3.heap.size from (hb9.trans (hb6.mono hb9.size)).size)
                    clear HY HLIT HB1 HOW HSD HTK HTK3 HAP hown3 hg3 hb6 hown6 hg6 hb8 KY hown9
                    go_wp2_with fail
                    exact ⟨⟨a + 1, _, by omega, by go_num, HNA.out.1, by omega, Lib.hid HNA.out.2, hown10, hb10⟩, by simp [intOf]; omega⟩
                  · have hcw2 : ¬ cw = a := fun h => hcw h.symm
                    have HY : KeepY ⟨bi, oi + j, none⟩ y wx2 := KY
                    have HLIT : Own encS 1 9 (wx2.alloc (.cells #[.string y] 9)).drew w4.heap.size (.slice (some ⟨wx2.heap.size, 0, none⟩) 1 1) [y] := Own.lit1 (enc := encS) (fun _ => rfl) wx2 _ hb9.size y
                    have HB1 : Below w4.heap.size w4 (wx2.alloc (.cells #[.string y] 9)).drew := (hb9.alloc hb9.size _).drew
                    have HOW : Own encS 1 9 (wx2.alloc (.cells #[.string y] 9)).drew w4.heap.size (.slice (some ⟨bw9, 0, none⟩) j cw) W := hown9.alloc _
                    have HSD : Sl encS 1 (wx2.alloc (.cells #[.string y] 9)).drew (wx2.alloc (.cells #[.string y] 9)).drew.heap.size (.slice (some ⟨bw9, a, none⟩) (j - a) (cw - a)) (W.drop a) := by have := HOW.drop (fun _ => rfl) a (by omega); rw [Nat.mul_one] at this; exact this
                    have HTK : ∀ j u, ((W.take a).flatMap encS)[j]? = some u → (wx2.alloc (.cells #[.string y] 9)).drew.cell? ⟨bw9, j, none⟩ = some u := own_take HOW (fun _ => rfl) a
                    have HAP := own_apart hown9
                    have hs1 : (1 : Nat) + (W.drop a).length ≤ 41 := by rw [hld]; omega
                    have hs2 : (W.take a).length + ([y] ++ W.drop a).length ≤ 82 := by rw [List.length_append, hla, hld, List.length_singleton]; omega
                    go_upto_region 20 with fail
                    go_region_held_law (fun w' => w'.cell? ⟨bi, oi + j, none⟩ = some (.string y) ∧ KeepY ⟨bi, oi + j, none⟩ y w') (first
                      | exact KeepY.all HY
                      | (go_split_ands; exact KeepY.all (by assumption))
                      | exact KeepY.all (KeepY.over HY (((Below.refl _ wx2).alloc (Nat.le_refl _) _).drew))
                      | exact KeepY.all (KeepY.over HY hb6)
                      | exact KeepY.all (KeepY.over HY hb8))
                      (first
                      | (refine step_app (by rfl) _ _ 47 (by rfl) w4.heap.size 9 i1 _ 1 16 Tryd.underlying47 hi9 hy0 hy1 hy2 (by rfl) (by decide) (fun _ => rfl) encS_each _ [y] (by rfl) HLIT _ _ (W.drop a) (by rfl) HSD (by rw [List.length_singleton]; omega) (by rw [List.length_singleton]; omega) HB1.size ?_; intro v3 w3 hown3 hg3; have hb6 : Below wx2.heap.size wx2 w3 := lit_below hg3; have HTK3 := take_kept HTK hg3 HAP)
                      | (refine step_grows (by rfl) _ _ 47 (by rfl) 9 i1 _ 1 16 Tryd.underlying47 hi9 hy0 hy1 hy2 (by rfl) (by decide) (fun _ => rfl) bw9 a (W.take a) (by rfl) hla.symm HTK3 _ _ ([y] ++ W.drop a) (by rfl) hown3 (by simp) (by omega) (by omega) ?_; intro v4 w6 hown6 hg6; have hb8 : Below wx2.heap.size wx2 w6 := hb6.grown hg6 hb6.size (fun k e => by cases e)))
                    have hb10 : Below w4.heap.size w4 w6 := hb9.trans (hb8.mono hb9.size)
                    have hown10 := hown6.lower (show w4.heap.size ≤ w3.heap.size from (hb9.trans (hb6.mono hb9.size)).size)
                    clear HY HLIT HB1 HOW HSD HTK HTK3 HAP hown3 hg3 hb6 hown6 hg6 hb8 KY hown9
                    go_wp2_with fail
                    exact ⟨⟨j + 1, _, by omega, by go_num, HNA.out.1, by omega, Lib.hid HNA.out.2, hown10, hb10⟩, by simp [intOf]; omega⟩
              · obtain rfl : a = 0 := by omega
                have dpos : decide ((0 : Int) < ((0 : Nat) : Int)) = false := by simp
                have HNA := Lib.hid (HN.out 0 ha HA.out (.inl rfl))
                have d0 : ¬ (0 : Int) < ((0 : Nat) : Int) := by simp
                clear HA BGa
                go_wp2_with fail
                go_quiet (fail)
                have KY : (wr.drewN nq).cell? ⟨bi, oi + j, none⟩ = some (.string y) := cya
                have hb9 : Below w4.heap.size w4 (wr.drewN nq) := below_drewN hb4a nq
                have hown9 : Own encS 1 9 (wr.drewN nq) w4.heap.size (.slice Aw j cw) W := howna.drewN nq
                obtain ⟨wx2, hwx⟩ : ∃ wx2, wx2 = wr.drewN nq := ⟨_, rfl⟩
                rw [← hwx] at KY hb9 hown9 ⊢
                clear hwx cya howna hb4a hba
                by_cases hj0 : j = 0
                · have hnil0 := hnil hj0
                  injection hnil0 with q1 q2 q3
                  subst q1 q3
                  have hW0 : W = [] := List.eq_nil_of_length_eq_zero q2
                  subst hW0
                  subst hj0
                  clear hnil q2
                  have KY2 : KeepY ⟨bi, oi, none⟩ y wx2 := by have := KY; rw [Nat.add_zero] at this; exact this
                  have HLIT : Own encS 1 9 (wx2.alloc (.cells #[.string y] 9)).drew w4.heap.size (.slice (some ⟨wx2.heap.size, 0, none⟩) 1 1) [y] := Own.lit1 (enc := encS) (fun _ => rfl) wx2 _ hb9.size y
                  have HB1 : Below w4.heap.size w4 (wx2.alloc (.cells #[.string y] 9)).drew := (hb9.alloc hb9.size _).drew
                  have HSD : Sl encS 1 (wx2.alloc (.cells #[.string y] 9)).drew 0 (.slice none 0 0) ([] : List ByteArray) := Sl.nil _ _
                  go_upto_region 20 with fail
                  go_region_held_law (fun w' => w'.cell? ⟨bi, oi, none⟩ = some (.string y) ∧ KeepY ⟨bi, oi, none⟩ y w') (first
                    | exact KeepY.all KY2
                    | (go_split_ands; exact KeepY.all (by assumption))
                    | exact KeepY.all (KeepY.over KY2 (((Below.refl _ wx2).alloc (Nat.le_refl _) _).drew))
                    | exact KeepY.all (KeepY.over KY2 hb6)
                    | exact KeepY.all (KeepY.over KY2 hb8))
                    (first
                    | (refine step_app (by rfl) _ _ 47 (by rfl) w4.heap.size 9 i1 _ 1 16 Tryd.underlying47 hi9 hy0 hy1 hy2 (by rfl) (by decide) (fun _ => rfl) encS_each _ [y] (by rfl) HLIT _ _ ([] : List ByteArray) (by rfl) HSD (by simp) (by simp) HB1.size ?_; intro v3 w3 hown3 hg3; have hb6 : Below wx2.heap.size wx2 w3 := lit_below hg3; have hsz3 := (hb9.trans (hb6.mono hb9.size)).size)
                    | (refine step_app (by rfl) _ _ 47 (by rfl) w4.heap.size 9 i1 _ 1 16 Tryd.underlying47 hi9 hy0 hy1 hy2 (by rfl) (by decide) (fun _ => rfl) encS_each _ ([] : List ByteArray) (by rfl) (Own.nil _ _) _ _ ([y] ++ []) (by rfl) (hown3.sl (fun _ => rfl)) (by simp) (by simp) hsz3 ?_; intro v4 w6 hown6 hg6; have hb8 : Below wx2.heap.size wx2 w6 := hb6.grown hg6 hb6.size (fun k e => by cases e)))
                  have hb10 : Below w4.heap.size w4 w6 := hb9.trans (hb8.mono hb9.size)
                  clear KY KY2 HLIT HB1 HSD hown3 hg3 hb6 hg6 hb8 hown9
                  go_wp2_with fail
                  exact ⟨⟨0 + 1, _, by omega, by go_num, HNA.out.1, by omega, Lib.hid HNA.out.2, hown6, hb10⟩, by simp [intOf]; omega⟩
                · obtain ⟨bw9, rfl⟩ : ∃ b, Aw = some ⟨b, 0, none⟩ := own_addr hown9 (by omega)
                  have hla : (W.take 0).length = 0 := by simp
                  have hld : (W.drop 0).length = j - 0 := by rw [List.drop_zero, hWj]; rfl
                  have hc0 : ¬ 0 = cw := by omega
                  have hc1 : ¬ cw = 0 := by omega
                  have HY : KeepY ⟨bi, oi + j, none⟩ y wx2 := KY
                  have HLIT : Own encS 1 9 (wx2.alloc (.cells #[.string y] 9)).drew w4.heap.size (.slice (some ⟨wx2.heap.size, 0, none⟩) 1 1) [y] := Own.lit1 (enc := encS) (fun _ => rfl) wx2 _ hb9.size y
                  have HB1 : Below w4.heap.size w4 (wx2.alloc (.cells #[.string y] 9)).drew := (hb9.alloc hb9.size _).drew
                  have HOW : Own encS 1 9 (wx2.alloc (.cells #[.string y] 9)).drew w4.heap.size (.slice (some ⟨bw9, 0, none⟩) j cw) W := hown9.alloc _
                  have HSD : Sl encS 1 (wx2.alloc (.cells #[.string y] 9)).drew (wx2.alloc (.cells #[.string y] 9)).drew.heap.size (.slice (some ⟨bw9, 0, none⟩) j cw) (W.drop 0) := by rw [List.drop_zero]; exact HOW.sl (fun _ => rfl)
                  have HTK : ∀ j u, ((W.take 0).flatMap encS)[j]? = some u → (wx2.alloc (.cells #[.string y] 9)).drew.cell? ⟨bw9, j, none⟩ = some u := own_take HOW (fun _ => rfl) 0
                  have HAP := own_apart hown9
                  have hs1 : (1 : Nat) + (W.drop 0).length ≤ 41 := by rw [hld]; omega
                  have hs2 : (W.take 0).length + ([y] ++ W.drop 0).length ≤ 82 := by rw [List.length_append, hla, hld, List.length_singleton]; omega
                  go_upto_region 20 with fail
                  go_region_held_law (fun w' => w'.cell? ⟨bi, oi + j, none⟩ = some (.string y) ∧ KeepY ⟨bi, oi + j, none⟩ y w') (first
                    | exact KeepY.all HY
                    | (go_split_ands; exact KeepY.all (by assumption))
                    | exact KeepY.all (KeepY.over HY (((Below.refl _ wx2).alloc (Nat.le_refl _) _).drew))
                    | exact KeepY.all (KeepY.over HY hb6)
                    | exact KeepY.all (KeepY.over HY hb8))
                    (first
                    | (refine step_app (by rfl) _ _ 47 (by rfl) w4.heap.size 9 i1 _ 1 16 Tryd.underlying47 hi9 hy0 hy1 hy2 (by rfl) (by decide) (fun _ => rfl) encS_each _ [y] (by rfl) HLIT _ _ (W.drop 0) (by rfl) HSD (by rw [List.length_singleton]; omega) (by rw [List.length_singleton]; omega) HB1.size ?_; intro v3 w3 hown3 hg3; have hb6 : Below wx2.heap.size wx2 w3 := lit_below hg3; have HTK3 := take_kept HTK hg3 HAP)
                    | (refine step_grows (by rfl) _ _ 47 (by rfl) 9 i1 _ 1 16 Tryd.underlying47 hi9 hy0 hy1 hy2 (by rfl) (by decide) (fun _ => rfl) bw9 0 (W.take 0) (by rfl) hla.symm HTK3 _ _ ([y] ++ W.drop 0) (by rfl) hown3 (by simp) (by omega) (by omega) ?_; intro v4 w6 hown6 hg6; have hb8 : Below wx2.heap.size wx2 w6 := hb6.grown hg6 hb6.size (fun k e => by cases e)))
                  have hb10 : Below w4.heap.size w4 w6 := hb9.trans (hb8.mono hb9.size)
                  have hown10 := hown6.lower (show w4.heap.size ≤ w3.heap.size from (hb9.trans (hb6.mono hb9.size)).size)
                  clear HY HLIT HB1 HOW HSD HTK HTK3 HAP hown3 hg3 hb6 hown6 hg6 hb8 KY hown9
                  go_wp2_with fail
                  exact ⟨⟨j + 1, _, by omega, by go_num, HNA.out.1, by omega, Lib.hid HNA.out.2, hown10, hb10⟩, by simp [intOf]; omega⟩
          · obtain rfl : j = i := by omega
            have hlt2' : ¬ (j : Int) < (j : Int) := by omega
            rw [List.take_of_length_le (by rw [HIM.out]; exact Nat.le_refl _)] at HW
            have HSW : Hid (S = W) := Lib.hid (by rw [HSF.out, ← HW.out.1])
            have OVr := Lib.hid (OV4.out.over hb)
            have WNr := Lib.hid (hown.sl (fun _ => rfl))
            obtain ⟨Aw, cw, rfl, hwc, hwcm⟩ := hown.shape
            rw [hWj] at WNr hwc ⊢
            have bwr := bw4.trans (hb.mono hw4)
            clear HSF HW hown hb hbz IN4 HRC BG4 OV4
            go_wp2_with fail
            go_loopw [13] (fun iv wx => ∃ q : Nat, q ≤ j ∧ iv = .int .i64 (q : Int) ∧ Below wr.heap.size wr wx) (fun iv _ => j - (intOf iv).toNat)
            case atStart => exact ⟨0, Nat.zero_le _, rfl, Below.refl _ _⟩
            case round =>
              obtain ⟨q, hq, rfl, hbq⟩ := hrel
              by_cases hlt3 : q < j
              · have hlt3' : (q : Int) < (j : Int) := by omega
                obtain ⟨x, hx⟩ : ∃ x, W[q]? = some x := ⟨W[q]'(by omega), by simp⟩
                obtain ⟨b1, o1, hA1, _, cx1⟩ := Strs.at (OVr.out.over hbq) q x (by rw [HSW.out]; exact hx)
                subst hA1
                obtain ⟨b2, o2, hA2, _, cx2⟩ := Strs.at (WNr.out.over hbq) q x hx
                subst hA2
                clear hx
                go_wp2_with fail
                go_quiet (fail)
                have hbq2 := below_drewN hbq nq
                go_wp2_with fail
                go_roundw
                case rel => exact ⟨q + 1, by omega, by go_num, hbq2⟩
                case measure => simp [intOf]; omega
              · obtain rfl : q = j := by omega
                have hlt3' : ¬ (q : Int) < (q : Int) := by omega
                go_wp2_with fail
                go_ret
                exact ⟨rfl, bwr.trans (hbq.mono bwr.size)⟩
      · have d0 : (E != 0) = true := by simpa using h0
        obtain rfl := ho2 h0
        clear OV3 RC BG3 IN3 bw3 b4 CF2 c0 c1 c2 c3 ho2 h0
        go_wp2_with fail
        go_ret
        exact ⟨ret_bool (by first | simp | rfl | decide), bw4⟩
end Go.Proofs.YtknnjnginmkblaaDoor
