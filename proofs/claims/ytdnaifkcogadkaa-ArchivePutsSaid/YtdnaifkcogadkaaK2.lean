/- Walks: slices.IndexFunc and slices.DeleteFunc over parts, at the closures of Remove and Put. -/
import Derived.Test.YtdnaifkcogadkaaK1
namespace Go.Proofs.Ytdnaifkcogadkaa
open Go.RowKit

def IdxPost (nm : ByteArray) (l : List Prt) (i : Int) : Prop := ∃ p q, l = p ++ q ∧ (∀ x ∈ p, prN nm x = false) ∧ ((q = [] ∧ i = -1) ∨ ∃ x r, q = x :: r ∧ prN nm x = true ∧ i = p.length)

set_option maxRecDepth 100000 in
set_option maxHeartbeats 2000000 in
theorem index48 (A : Option Addr) (n c B : Nat) (l : List Prt) (nm : ByteArray) (w : World) (hl : Parts w w.heap.size (.slice A n c) l)
    (HC : Hid (∀ (W : World) (x : Prt), Below w.heap.size w W → Calls Try.prog 48 #[.agg #[.string x.1, .string x.2], .pointer (some ⟨B, 0, none⟩)] W fun e w' => e = .returned (.bool (prN nm x)) ∧ Below W.heap.size W w')) :
    Calls Try.prog 56 #[.slice A n c, .func (.func 48) #[] #[.pointer (some ⟨B, 0, none⟩)]] w fun e w' => ∃ i, e = .returned (.int .i64 i) ∧ IdxPost nm l i ∧ Below w.heap.size w w' := by
  obtain ⟨A', c', hv, hlc, hc, HPt⟩ := hl.part
  simp only [Value.slice.injEq] at hv
  obtain ⟨rfl, hn, rfl⟩ := hv
  have HP := Lib.hid HPt
  have HN := Lib.hid hn
  rw [← hn] at hlc
  clear hl HPt hn
  go_enter Try.func56, Try.ntmps56
  go_wp2_with fail
  go_loopw [8] (fun iv wr => ∃ k : Nat, k ≤ n ∧ iv = .int .i64 k ∧ Hid (∀ x ∈ l.take k, prN nm x = false) ∧ Below w.heap.size w wr) (fun iv _ => n - (intOf iv).toNat)
  case atStart => exact ⟨0, Nat.zero_le _, rfl, Lib.hid (fun x hx => by simp at hx), Below.refl _ _⟩
  case round =>
    obtain ⟨k, hk, rfl, HK, hb⟩ := hrel
    have hbz := hb.size
    by_cases hlt : k < n
    · have hkl : k < l.length := by rw [← HN.out]; exact hlt
      obtain ⟨b, o, rfl, hbB, g1, g2⟩ := (HP.out.below hb) k hkl
      have HT : Hid (l.take (k + 1) = l.take k ++ [l[k]]) := Lib.hid (List.take_succ_eq_append_getElem hkl)
      have HDr : Hid (l = l.take k ++ l[k] :: l.drop (k + 1)) := Lib.hid (by rw [← List.drop_eq_getElem_cons hkl, List.take_append_drop])
      obtain ⟨x, hx⟩ : ∃ x, x = l[k] := ⟨_, rfl⟩
      rw [← hx] at g1 g2 HT HDr
      clear hx
      have HX := Lib.hid (HC.out wr x hb)
      by_cases hp : prN nm x = true
      · rw [hp] at HX
        have HI : Hid (IdxPost nm l k) := Lib.hid ⟨l.take k, x :: l.drop (k + 1), HDr.out, HK.out, .inr ⟨x, _, rfl, hp, by rw [List.length_take]; omega⟩⟩
        obtain ⟨x0, x1⟩ := x
        simp only at g1 g2
        clear hp hkl
        go_wp2_with fail
        refine HX.out.mono ?_
        rintro e w1 ⟨rfl, hk1⟩
        go_wp2_with fail
        go_ret
        exact ⟨_, rfl, HI.out, hb.trans (hk1.mono hbz)⟩
      · have hp' : prN nm x = false := by simpa using hp
        rw [hp'] at HX
        have HKn : Hid (∀ y ∈ l.take (k + 1), prN nm y = false) := Lib.hid (fun y hy => by
          rw [HT.out] at hy
          rcases List.mem_append.1 hy with hy | hy
          · exact HK.out y hy
          · rw [List.mem_singleton.1 hy]; exact hp')
        obtain ⟨x0, x1⟩ := x
        simp only at g1 g2
        clear hp hp' hkl
        go_wp2_with fail
        refine HX.out.mono ?_
        rintro e w1 ⟨rfl, hk1⟩
        have hb2 := hb.trans (hk1.mono hbz)
        go_wp2_with fail
        go_roundw
        case rel => exact ⟨k + 1, by omega, by go_num, HKn, hb2⟩
        case measure => simp [intOf]; omega
    · have HI : Hid (IdxPost nm l (-1)) := Lib.hid ⟨l, [], by simp, by have h := HK.out; rw [List.take_of_length_le (by rw [← HN.out]; omega)] at h; exact h, .inl ⟨rfl, rfl⟩⟩
      go_wp2_with fail
      go_ret
      exact ⟨_, rfl, HI.out, hb⟩

set_option maxRecDepth 100000 in
set_option maxHeartbeats 4000000 in
theorem delete48 (v : Value) (base B : Nat) (l : List Prt) (nm : ByteArray) (w : World) (hown : OwnP w base v l) (hbase : base ≤ w.heap.size) (hl : l.length ≤ 1048576)
    (HC : Hid (∀ (W : World) (x : Prt), Below base w W → Calls Try.prog 48 #[.agg #[.string x.1, .string x.2], .pointer (some ⟨B, 0, none⟩)] W fun e w' => e = .returned (.bool (prN nm x)) ∧ Below W.heap.size W w')) :
    Calls Try.prog 47 #[v, .func (.func 48) #[] #[.pointer (some ⟨B, 0, none⟩)]] w fun e w' => ∃ v', e = .returned v' ∧ OwnP w' base v' (l.filter fun x => !prN nm x) ∧ Below base w w' := by
  obtain ⟨A, c, rfl, hlc, hcm⟩ := Own.shape hown
  unfold maxLen at hcm
  have HI := Lib.hid (index48 A l.length c B l nm w (hown.sl encP_length) (Lib.hid (fun W x hb => HC.out W x (hb.mono hbase))))
  obtain ⟨n, hn⟩ : ∃ n, n = l.length := ⟨_, rfl⟩
  have HN := Lib.hid hn
  rw [← hn] at hlc HI hown hl ⊢
  have HO := Lib.hid hown
  clear hown hn
  go_enter Try.func47, Try.ntmps47
  go_wp2_with fail
  refine HI.out.mono ?_
  rintro e w1 ⟨i, rfl, ⟨p, q, hpq, hp, hi⟩, hb1⟩
  have hO1 := HO.out.over hb1
  have hb1' := hb1.mono hbase
  clear HI HO hb1
  rcases hi with ⟨rfl, rfl⟩ | ⟨x, r, rfl, hx, rfl⟩
  · have HF : Hid ((l.filter fun x => !prN nm x) = l) := Lib.hid (by
      rw [hpq, List.append_nil]
      exact List.filter_eq_self.2 (fun y hy => by rw [hp y hy]; rfl))
    clear hpq hp
    go_wp2_with fail
    go_ret
    exact ⟨_, rfl, by rw [HF.out]; exact hO1, hb1'⟩
  obtain ⟨i, hi⟩ : ∃ i, i = p.length := ⟨_, rfl⟩
  have HF0 : Hid ((l.filter fun x => !prN nm x) = p ++ r.filter fun x => !prN nm x) := Lib.hid (by
    rw [hpq, List.filter_append, List.filter_eq_self.2 (fun y hy => by rw [hp y hy]; rfl), List.filter_cons]
    simp [hx])
  have hlen : i + 1 + r.length = n := by
    have h := HN.out
    rw [hpq, List.length_append, List.length_cons, ← hi] at h
    omega
  have HPQ := Lib.hid hpq
  have HI := Lib.hid hi
  rw [← hi]
  clear hpq hp hx hi
  have hi0 : ((i : Int) == -1) = false := by rw [beq_eq_false_iff_ne]; omega
  have hin : i < n := by omega
  obtain ⟨g, hA, hg1, hg2, _, _, _⟩ := OwnP.get hO1 i x (by rw [HPQ.out, HI.out]; simp)
  subst hA
  have hO1' : OwnP w1 base (.slice (some ⟨g, 0, none⟩) n c) (p ++ [x] ++ r) := by rw [List.append_assoc, List.singleton_append, ← HPQ.out]; exact hO1
  clear hO1 hg2
  go_wp2_with fail
  go_loopw [5, 6] (fun iv jv wr => ∃ (i j : Nat) (F G R : List Prt), iv = .int .i64 i ∧ jv = .int .i64 j ∧ Hid ((l.filter fun x => !prN nm x) = F ++ R.filter fun x => !prN nm x) ∧ Hid (F.length = i) ∧ Hid (i + G.length = j) ∧ i < j ∧ j ≤ n ∧ Hid (j + R.length = n) ∧ OwnP wr base (.slice (some ⟨g, 0, none⟩) n c) (F ++ G ++ R) ∧ Below base w wr) (fun _ jv _ => n - (intOf jv).toNat)
  case atStart => exact ⟨i, i + 1, p, [x], r, rfl, by go_num, HF0, Lib.hid HI.out.symm, Lib.hid rfl, by omega, by omega, Lib.hid hlen, hO1', hb1'⟩
  case round =>
    clear hO1' hb1' hlen hin hi0 HI HPQ
    obtain ⟨i, j, F, G, R, rfl, rfl, HF, HL, HG, hij, hjn, HR, hown, hb⟩ := hrel
    have hbz := hb.size
    by_cases hlt : j < n
    · obtain ⟨y, R', hR⟩ : ∃ y R', R = y :: R' := by
        cases R with
        | nil => have h := HR.out; simp at h; omega
        | cons y R' => exact ⟨y, R', rfl⟩
      obtain ⟨y0, G', hG⟩ : ∃ y0 G', G = y0 :: G' := by
        cases G with
        | nil => have h := HG.out; simp at h; omega
        | cons y0 G' => exact ⟨y0, G', rfl⟩
      subst hR hG
      obtain ⟨g', hA, _, hgl, c0, c1, fz⟩ := OwnP.get hown j y (by
        have e : (F ++ y0 :: G').length = j := by rw [List.length_append, HL.out]; exact HG.out
        rw [List.getElem?_append_right (by omega), e]; simp)
      obtain rfl : g = g' := by simpa using hA
      clear hA
      have hR1 : j + 1 + R'.length = n := by have h := HR.out; rw [List.length_cons] at h; omega
      have HR1 := Lib.hid hR1
      clear hR1
      have hOc := Own.alloc hown (.cells #[.string y.1, .string y.2] 38)
      have hbc := hb.alloc (Nat.le_trans hbase hbz) (.cells #[.string y.1, .string y.2] 38)
      have bP : BoxP (wr.alloc (.cells #[.string y.1, .string y.2] 38)) wr.heap.size y.1 y.2 := heap_alloc_new _ _
      have HX := Lib.hid (HC.out _ y hbc)
      have HOc := Lib.hid hOc
      have HBP := Lib.hid bP
      clear hown hOc bP fz
      by_cases hp : prN nm y = true
      · rw [hp] at HX
        have HFn : Hid ((l.filter fun x => !prN nm x) = F ++ R'.filter fun x => !prN nm x) := Lib.hid (by rw [HF.out, List.filter_cons]; simp [hp])
        have HL2 : Hid (i + (y0 :: G' ++ [y]).length = j + 1) := Lib.hid (by have h := HG.out; rw [List.length_append, List.length_singleton]; omega)
        have HE : Hid (F ++ (y0 :: G' ++ [y]) ++ R' = F ++ y0 :: G' ++ y :: R') := Lib.hid (by simp)
        obtain ⟨x0, x1⟩ := y
        simp only at c0 c1
        have q0 := HBP.out.c0
        have q1 := HBP.out.c1
        try simp only at q0 q1
        clear hp
        go_wp2_with fail
        refine HX.out.mono ?_
        rintro e w2 ⟨rfl, hk2⟩
        have hb2 := hbc.trans (hk2.mono (Nat.le_trans hbase (Nat.le_trans hbz (by simp))))
        have hO2 := HOc.out.over hk2
        rw [← HE.out] at hO2
        go_wp2_with fail
        go_roundw
        case rel => exact ⟨i, j + 1, F, y0 :: G' ++ [(x0, x1)], R', rfl, by go_num, HFn, HL, HL2, by omega, by omega, HR1, hO2, hb2⟩
        case measure => simp [intOf]; omega
      · have hp' : prN nm y = false := by simpa using hp
        rw [hp'] at HX
        have HFn : Hid ((l.filter fun x => !prN nm x) = (F ++ [y]) ++ R'.filter fun x => !prN nm x) := Lib.hid (by rw [HF.out, List.filter_cons]; simp [hp'])
        have HL1 : Hid ((F ++ [y]).length = i + 1) := Lib.hid (by rw [List.length_append, HL.out]; rfl)
        have HL2 : Hid (i + 1 + (G' ++ [y]).length = j + 1) := Lib.hid (by have h := HG.out; rw [List.length_cons] at h; rw [List.length_append, List.length_singleton]; omega)
        have HE : Hid (F ++ [y] ++ (G' ++ [y]) ++ R' = F ++ y :: (G' ++ y :: R')) := Lib.hid (by simp)
        have hi9 : i < n := by omega
        have hi8 : (i : Int) < (n : Int) := by omega
        obtain ⟨x0, x1⟩ := y
        simp only at c0 c1
        have q0 := HBP.out.c0
        have q1 := HBP.out.c1
        try simp only at q0 q1
        clear hp hp'
        go_wp2_with fail
        refine HX.out.mono ?_
        rintro e w2 ⟨rfl, hk2⟩
        have hb2 := hbc.trans (hk2.mono (Nat.le_trans hbase (Nat.le_trans hbz (by simp))))
        have hO2 := HOc.out.over hk2
        rw [List.append_assoc] at hO2
        have p0 := (HBP.out.over hk2).c0
        have p1 := (HBP.out.over hk2).c1
        try simp only at p0 p1
        have hF := HL.out
        obtain ⟨g', hA, _, hgl2, d0, d1, fz⟩ := OwnP.get hO2 i y0 (by rw [← HL.out]; simp)
        obtain rfl : g = g' := by simpa using hA
        have hO3 := OwnP.put (F := F) (y0 := y0) (R := G' ++ (x0, x1) :: R') hO2 hg1 (x0, x1)
        rw [hF, ← HE.out] at hO3
        have f0 := fz (i * 2)
        have f1 := fz (i * 2 + 1)
        have hb3 : Below base w ((w2.setCell ⟨g, i * 2, none⟩ (.string x0)).setCell ⟨g, i * 2 + 1, none⟩ (.string x1)) := (hb2.setCell hg1 _).setCell hg1 _
        clear hA fz hO2 hb2 hF
        go_wp2_with fail
        go_roundw
        case rel => exact ⟨i + 1, j + 1, F ++ [(x0, x1)], G' ++ [(x0, x1)], R', by go_num, by go_num, HFn, HL1, HL2, by omega, by omega, HR1, hO3, hb3⟩
        case measure => simp [intOf]; omega
    · have hR0 : R = [] := by
        have h := HR.out
        exact List.eq_nil_of_length_eq_zero (by omega)
      subst hR0
      have HFn : Hid ((l.filter fun x => !prN nm x) = F) := Lib.hid (by rw [HF.out]; simp)
      have hin : i < n := by omega
      obtain ⟨hsp, hfz⟩ := OwnP.spare hown
      have hcl := fun ty => run_clear wr ty g (i * 2) (n - i) (c - i) (by omega) (fun j hj => hsp _ (by omega)) (fun j _ => hfz _)
      have hO3 := OwnP.cleared (F := F) (R := G) (by rw [List.append_nil] at hown; exact hown) (zsL (n - i))
      rw [HL.out] at hO3
      have hb3 : Below base w (wr.setCells g (i * 2) (zsL (n - i))) := below_setCells hg1 _ _ _ hb
      have k1 : (i : Int) ≤ (n : Int) := by omega
      have k2 : (n : Int) ≤ (c : Int) := by omega
      have k3 : i ≤ c := by omega
      have k4 : (i : Int) ≤ (c : Int) := by omega
      have k5 : ¬ c = i := by omega
      have k6 : ((n : Int) - (i : Int)).toNat = n - i := by omega
      have k7 : ((c : Int) - (i : Int)).toNat = c - i := by omega
      clear hsp hfz hown hb
      go_wp2_with fail
      go_ret
      exact ⟨_, rfl, by rw [HFn.out]; exact hO3, hb3⟩

set_option maxRecDepth 100000 in
set_option maxHeartbeats 2000000 in
theorem index49 (A : Option Addr) (n c B : Nat) (l : List Prt) (nm : ByteArray) (w : World) (hl : Parts w w.heap.size (.slice A n c) l)
    (HC : Hid (∀ (W : World) (x : Prt), Below w.heap.size w W → Calls Try.prog 49 #[.agg #[.string x.1, .string x.2], .pointer (some ⟨B, 0, none⟩)] W fun e w' => e = .returned (.bool (prN nm x)) ∧ Below W.heap.size W w')) :
    Calls Try.prog 56 #[.slice A n c, .func (.func 49) #[] #[.pointer (some ⟨B, 0, none⟩)]] w fun e w' => ∃ i, e = .returned (.int .i64 i) ∧ IdxPost nm l i ∧ Below w.heap.size w w' := by
  obtain ⟨A', c', hv, hlc, hc, HPt⟩ := hl.part
  simp only [Value.slice.injEq] at hv
  obtain ⟨rfl, hn, rfl⟩ := hv
  have HP := Lib.hid HPt
  have HN := Lib.hid hn
  rw [← hn] at hlc
  clear hl HPt hn
  go_enter Try.func56, Try.ntmps56
  go_wp2_with fail
  go_loopw [8] (fun iv wr => ∃ k : Nat, k ≤ n ∧ iv = .int .i64 k ∧ Hid (∀ x ∈ l.take k, prN nm x = false) ∧ Below w.heap.size w wr) (fun iv _ => n - (intOf iv).toNat)
  case atStart => exact ⟨0, Nat.zero_le _, rfl, Lib.hid (fun x hx => by simp at hx), Below.refl _ _⟩
  case round =>
    obtain ⟨k, hk, rfl, HK, hb⟩ := hrel
    have hbz := hb.size
    by_cases hlt : k < n
    · have hkl : k < l.length := by rw [← HN.out]; exact hlt
      obtain ⟨b, o, rfl, hbB, g1, g2⟩ := (HP.out.below hb) k hkl
      have HT : Hid (l.take (k + 1) = l.take k ++ [l[k]]) := Lib.hid (List.take_succ_eq_append_getElem hkl)
      have HDr : Hid (l = l.take k ++ l[k] :: l.drop (k + 1)) := Lib.hid (by rw [← List.drop_eq_getElem_cons hkl, List.take_append_drop])
      obtain ⟨x, hx⟩ : ∃ x, x = l[k] := ⟨_, rfl⟩
      rw [← hx] at g1 g2 HT HDr
      clear hx
      have HX := Lib.hid (HC.out wr x hb)
      by_cases hp : prN nm x = true
      · rw [hp] at HX
        have HI : Hid (IdxPost nm l k) := Lib.hid ⟨l.take k, x :: l.drop (k + 1), HDr.out, HK.out, .inr ⟨x, _, rfl, hp, by rw [List.length_take]; omega⟩⟩
        obtain ⟨x0, x1⟩ := x
        simp only at g1 g2
        clear hp hkl
        go_wp2_with fail
        refine HX.out.mono ?_
        rintro e w1 ⟨rfl, hk1⟩
        go_wp2_with fail
        go_ret
        exact ⟨_, rfl, HI.out, hb.trans (hk1.mono hbz)⟩
      · have hp' : prN nm x = false := by simpa using hp
        rw [hp'] at HX
        have HKn : Hid (∀ y ∈ l.take (k + 1), prN nm y = false) := Lib.hid (fun y hy => by
          rw [HT.out] at hy
          rcases List.mem_append.1 hy with hy | hy
          · exact HK.out y hy
          · rw [List.mem_singleton.1 hy]; exact hp')
        obtain ⟨x0, x1⟩ := x
        simp only at g1 g2
        clear hp hp' hkl
        go_wp2_with fail
        refine HX.out.mono ?_
        rintro e w1 ⟨rfl, hk1⟩
        have hb2 := hb.trans (hk1.mono hbz)
        go_wp2_with fail
        go_roundw
        case rel => exact ⟨k + 1, by omega, by go_num, HKn, hb2⟩
        case measure => simp [intOf]; omega
    · have HI : Hid (IdxPost nm l (-1)) := Lib.hid ⟨l, [], by simp, by have h := HK.out; rw [List.take_of_length_le (by rw [← HN.out]; omega)] at h; exact h, .inl ⟨rfl, rfl⟩⟩
      go_wp2_with fail
      go_ret
      exact ⟨_, rfl, HI.out, hb⟩

set_option maxRecDepth 100000 in
set_option maxHeartbeats 4000000 in
theorem delete49 (v : Value) (base B : Nat) (l : List Prt) (nm : ByteArray) (w : World) (hown : OwnP w base v l) (hbase : base ≤ w.heap.size) (hl : l.length ≤ 1048576)
    (HC : Hid (∀ (W : World) (x : Prt), Below base w W → Calls Try.prog 49 #[.agg #[.string x.1, .string x.2], .pointer (some ⟨B, 0, none⟩)] W fun e w' => e = .returned (.bool (prN nm x)) ∧ Below W.heap.size W w')) :
    Calls Try.prog 47 #[v, .func (.func 49) #[] #[.pointer (some ⟨B, 0, none⟩)]] w fun e w' => ∃ v', e = .returned v' ∧ OwnP w' base v' (l.filter fun x => !prN nm x) ∧ Below base w w' := by
  obtain ⟨A, c, rfl, hlc, hcm⟩ := Own.shape hown
  unfold maxLen at hcm
  have HI := Lib.hid (index49 A l.length c B l nm w (hown.sl encP_length) (Lib.hid (fun W x hb => HC.out W x (hb.mono hbase))))
  obtain ⟨n, hn⟩ : ∃ n, n = l.length := ⟨_, rfl⟩
  have HN := Lib.hid hn
  rw [← hn] at hlc HI hown hl ⊢
  have HO := Lib.hid hown
  clear hown hn
  go_enter Try.func47, Try.ntmps47
  go_wp2_with fail
  refine HI.out.mono ?_
  rintro e w1 ⟨i, rfl, ⟨p, q, hpq, hp, hi⟩, hb1⟩
  have hO1 := HO.out.over hb1
  have hb1' := hb1.mono hbase
  clear HI HO hb1
  rcases hi with ⟨rfl, rfl⟩ | ⟨x, r, rfl, hx, rfl⟩
  · have HF : Hid ((l.filter fun x => !prN nm x) = l) := Lib.hid (by
      rw [hpq, List.append_nil]
      exact List.filter_eq_self.2 (fun y hy => by rw [hp y hy]; rfl))
    clear hpq hp
    go_wp2_with fail
    go_ret
    exact ⟨_, rfl, by rw [HF.out]; exact hO1, hb1'⟩
  obtain ⟨i, hi⟩ : ∃ i, i = p.length := ⟨_, rfl⟩
  have HF0 : Hid ((l.filter fun x => !prN nm x) = p ++ r.filter fun x => !prN nm x) := Lib.hid (by
    rw [hpq, List.filter_append, List.filter_eq_self.2 (fun y hy => by rw [hp y hy]; rfl), List.filter_cons]
    simp [hx])
  have hlen : i + 1 + r.length = n := by
    have h := HN.out
    rw [hpq, List.length_append, List.length_cons, ← hi] at h
    omega
  have HPQ := Lib.hid hpq
  have HI := Lib.hid hi
  rw [← hi]
  clear hpq hp hx hi
  have hi0 : ((i : Int) == -1) = false := by rw [beq_eq_false_iff_ne]; omega
  have hin : i < n := by omega
  obtain ⟨g, hA, hg1, hg2, _, _, _⟩ := OwnP.get hO1 i x (by rw [HPQ.out, HI.out]; simp)
  subst hA
  have hO1' : OwnP w1 base (.slice (some ⟨g, 0, none⟩) n c) (p ++ [x] ++ r) := by rw [List.append_assoc, List.singleton_append, ← HPQ.out]; exact hO1
  clear hO1 hg2
  go_wp2_with fail
  go_loopw [5, 6] (fun iv jv wr => ∃ (i j : Nat) (F G R : List Prt), iv = .int .i64 i ∧ jv = .int .i64 j ∧ Hid ((l.filter fun x => !prN nm x) = F ++ R.filter fun x => !prN nm x) ∧ Hid (F.length = i) ∧ Hid (i + G.length = j) ∧ i < j ∧ j ≤ n ∧ Hid (j + R.length = n) ∧ OwnP wr base (.slice (some ⟨g, 0, none⟩) n c) (F ++ G ++ R) ∧ Below base w wr) (fun _ jv _ => n - (intOf jv).toNat)
  case atStart => exact ⟨i, i + 1, p, [x], r, rfl, by go_num, HF0, Lib.hid HI.out.symm, Lib.hid rfl, by omega, by omega, Lib.hid hlen, hO1', hb1'⟩
  case round =>
    clear hO1' hb1' hlen hin hi0 HI HPQ
    obtain ⟨i, j, F, G, R, rfl, rfl, HF, HL, HG, hij, hjn, HR, hown, hb⟩ := hrel
    have hbz := hb.size
    by_cases hlt : j < n
    · obtain ⟨y, R', hR⟩ : ∃ y R', R = y :: R' := by
        cases R with
        | nil => have h := HR.out; simp at h; omega
        | cons y R' => exact ⟨y, R', rfl⟩
      obtain ⟨y0, G', hG⟩ : ∃ y0 G', G = y0 :: G' := by
        cases G with
        | nil => have h := HG.out; simp at h; omega
        | cons y0 G' => exact ⟨y0, G', rfl⟩
      subst hR hG
      obtain ⟨g', hA, _, hgl, c0, c1, fz⟩ := OwnP.get hown j y (by
        have e : (F ++ y0 :: G').length = j := by rw [List.length_append, HL.out]; exact HG.out
        rw [List.getElem?_append_right (by omega), e]; simp)
      obtain rfl : g = g' := by simpa using hA
      clear hA
      have hR1 : j + 1 + R'.length = n := by have h := HR.out; rw [List.length_cons] at h; omega
      have HR1 := Lib.hid hR1
      clear hR1
      have hOc := Own.alloc hown (.cells #[.string y.1, .string y.2] 38)
      have hbc := hb.alloc (Nat.le_trans hbase hbz) (.cells #[.string y.1, .string y.2] 38)
      have bP : BoxP (wr.alloc (.cells #[.string y.1, .string y.2] 38)) wr.heap.size y.1 y.2 := heap_alloc_new _ _
      have HX := Lib.hid (HC.out _ y hbc)
      have HOc := Lib.hid hOc
      have HBP := Lib.hid bP
      clear hown hOc bP fz
      by_cases hp : prN nm y = true
      · rw [hp] at HX
        have HFn : Hid ((l.filter fun x => !prN nm x) = F ++ R'.filter fun x => !prN nm x) := Lib.hid (by rw [HF.out, List.filter_cons]; simp [hp])
        have HL2 : Hid (i + (y0 :: G' ++ [y]).length = j + 1) := Lib.hid (by have h := HG.out; rw [List.length_append, List.length_singleton]; omega)
        have HE : Hid (F ++ (y0 :: G' ++ [y]) ++ R' = F ++ y0 :: G' ++ y :: R') := Lib.hid (by simp)
        obtain ⟨x0, x1⟩ := y
        simp only at c0 c1
        have q0 := HBP.out.c0
        have q1 := HBP.out.c1
        try simp only at q0 q1
        clear hp
        go_wp2_with fail
        refine HX.out.mono ?_
        rintro e w2 ⟨rfl, hk2⟩
        have hb2 := hbc.trans (hk2.mono (Nat.le_trans hbase (Nat.le_trans hbz (by simp))))
        have hO2 := HOc.out.over hk2
        rw [← HE.out] at hO2
        go_wp2_with fail
        go_roundw
        case rel => exact ⟨i, j + 1, F, y0 :: G' ++ [(x0, x1)], R', rfl, by go_num, HFn, HL, HL2, by omega, by omega, HR1, hO2, hb2⟩
        case measure => simp [intOf]; omega
      · have hp' : prN nm y = false := by simpa using hp
        rw [hp'] at HX
        have HFn : Hid ((l.filter fun x => !prN nm x) = (F ++ [y]) ++ R'.filter fun x => !prN nm x) := Lib.hid (by rw [HF.out, List.filter_cons]; simp [hp'])
        have HL1 : Hid ((F ++ [y]).length = i + 1) := Lib.hid (by rw [List.length_append, HL.out]; rfl)
        have HL2 : Hid (i + 1 + (G' ++ [y]).length = j + 1) := Lib.hid (by have h := HG.out; rw [List.length_cons] at h; rw [List.length_append, List.length_singleton]; omega)
        have HE : Hid (F ++ [y] ++ (G' ++ [y]) ++ R' = F ++ y :: (G' ++ y :: R')) := Lib.hid (by simp)
        have hi9 : i < n := by omega
        have hi8 : (i : Int) < (n : Int) := by omega
        obtain ⟨x0, x1⟩ := y
        simp only at c0 c1
        have q0 := HBP.out.c0
        have q1 := HBP.out.c1
        try simp only at q0 q1
        clear hp hp'
        go_wp2_with fail
        refine HX.out.mono ?_
        rintro e w2 ⟨rfl, hk2⟩
        have hb2 := hbc.trans (hk2.mono (Nat.le_trans hbase (Nat.le_trans hbz (by simp))))
        have hO2 := HOc.out.over hk2
        rw [List.append_assoc] at hO2
        have p0 := (HBP.out.over hk2).c0
        have p1 := (HBP.out.over hk2).c1
        try simp only at p0 p1
        have hF := HL.out
        obtain ⟨g', hA, _, hgl2, d0, d1, fz⟩ := OwnP.get hO2 i y0 (by rw [← HL.out]; simp)
        obtain rfl : g = g' := by simpa using hA
        have hO3 := OwnP.put (F := F) (y0 := y0) (R := G' ++ (x0, x1) :: R') hO2 hg1 (x0, x1)
        rw [hF, ← HE.out] at hO3
        have f0 := fz (i * 2)
        have f1 := fz (i * 2 + 1)
        have hb3 : Below base w ((w2.setCell ⟨g, i * 2, none⟩ (.string x0)).setCell ⟨g, i * 2 + 1, none⟩ (.string x1)) := (hb2.setCell hg1 _).setCell hg1 _
        clear hA fz hO2 hb2 hF
        go_wp2_with fail
        go_roundw
        case rel => exact ⟨i + 1, j + 1, F ++ [(x0, x1)], G' ++ [(x0, x1)], R', by go_num, by go_num, HFn, HL1, HL2, by omega, by omega, HR1, hO3, hb3⟩
        case measure => simp [intOf]; omega
    · have hR0 : R = [] := by
        have h := HR.out
        exact List.eq_nil_of_length_eq_zero (by omega)
      subst hR0
      have HFn : Hid ((l.filter fun x => !prN nm x) = F) := Lib.hid (by rw [HF.out]; simp)
      have hin : i < n := by omega
      obtain ⟨hsp, hfz⟩ := OwnP.spare hown
      have hcl := fun ty => run_clear wr ty g (i * 2) (n - i) (c - i) (by omega) (fun j hj => hsp _ (by omega)) (fun j _ => hfz _)
      have hO3 := OwnP.cleared (F := F) (R := G) (by rw [List.append_nil] at hown; exact hown) (zsL (n - i))
      rw [HL.out] at hO3
      have hb3 : Below base w (wr.setCells g (i * 2) (zsL (n - i))) := below_setCells hg1 _ _ _ hb
      have k1 : (i : Int) ≤ (n : Int) := by omega
      have k2 : (n : Int) ≤ (c : Int) := by omega
      have k3 : i ≤ c := by omega
      have k4 : (i : Int) ≤ (c : Int) := by omega
      have k5 : ¬ c = i := by omega
      have k6 : ((n : Int) - (i : Int)).toNat = n - i := by omega
      have k7 : ((c : Int) - (i : Int)).toNat = c - i := by omega
      clear hsp hfz hown hb
      go_wp2_with fail
      go_ret
      exact ⟨_, rfl, by rw [HFn.out]; exact hO3, hb3⟩
end Go.Proofs.Ytdnaifkcogadkaa
