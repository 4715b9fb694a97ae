/- Walks: headings. -/
import Derived.Test.YtknnjnginmkblaaDoorElements
import Derived.Test.YtknnjnginmkblaaDoorR5
namespace Go.Proofs.YtknnjnginmkblaaDoor
open Go.RowKit

/-- The heading of weights. -/
def initL : List Nat → List Nat
  | [] => []
  | p :: _ => if 32768 ≤ p ∧ p ≤ 32868 ∧ p % 4 = 0 then [65 + (p - 32768) / 4] else if 512 ≤ p ∧ p < 32768 then [48, 45, 57] else []
def initR (o : Opt) (s : ByteArray) : List Nat := if errC o [s] = 0 then initL (wts El.p (elS o s)) else []
/-- A slice of one byte made a string. -/
theorem conv_one (w : World) (y : Nat) (hy : y < 256) : (convert 49 9 (.slice (some ⟨w.heap.size, 0, none⟩) 1 1)).run Tryd.prog (w.alloc (.cells #[.int .u8 (y : Int)] 5)) = .ok (.string ⟨#[UInt8.ofNat y]⟩) (w.alloc (.cells #[.int .u8 (y : Int)] 5)) := by
  have := run_convert_bytes_back (P := Tryd.prog) (w.alloc (.cells #[.int .u8 (y : Int)] 5)) 49 9 5 ⟨w.heap.size, 0, none⟩ 1 [UInt8.ofNat y] Tryd.underlying49 Tryd.underlying5 Tryd.underlying9 (fun j hj => by
    have hj0 : j = 0 := by simpa using hj
    subst hj0
    rw [addr_add, Nat.zero_add]
    have hc := cells_new w [.int .u8 (y : Int)] 5 0 _ rfl
    rw [hc]
    simp [UInt8.toNat_ofNat, Nat.mod_eq_of_lt hy])
  exact this
theorem bytesN_one (y : Nat) (hy : y < 256) : bytesN ⟨#[UInt8.ofNat y]⟩ = [y] := by
  unfold bytesN
  simp [UInt8.toNat_ofNat, Nat.mod_eq_of_lt hy]
/-- What a heading answers. -/
def InitE (w : World) (E : Int) (l : List Nat) (e : Ending) (w' : World) : Prop := ∃ t : ByteArray, e = .returned (.tuple #[.string t, .int .i64 E]) ∧ bytesN t = l ∧ Below w.heap.size w w'
theorem i_nil (p : Nat) (r : List Nat) (h1 : ¬ (32768 ≤ p ∧ p ≤ 32868 ∧ p % 4 = 0)) (h2 : ¬ (512 ≤ p ∧ p < 32768)) : initL (p :: r) = [] := by
  simp only [initL]; rw [if_neg h1, if_neg h2]
theorem i_num (p : Nat) (r : List Nat) (h2 : 512 ≤ p ∧ p < 32768) : initL (p :: r) = [48, 45, 57] := by
  simp only [initL]; rw [if_neg (by omega), if_pos h2]
theorem i_let (p : Nat) (r : List Nat) (h1 : 32768 ≤ p ∧ p ≤ 32868 ∧ p % 4 = 0) : initL (p :: r) = [65 + (p - 32768) / 4] := by
  simp only [initL]; rw [if_pos h1]

theorem let_tests (p : Nat) (h1 : 32768 ≤ p) (h2 : p ≤ 32868) (h3 : p % 4 = 0) : ((p : Int).tmod 4 == 0) = true ∧ decide (32768 ≤ (p : Int)) = true ∧ decide ((p : Int) ≤ 32868) = true := by
  refine ⟨?_, ?_, ?_⟩
  · rw [Int.tmod_eq_emod_of_nonneg (by omega), beq_iff_eq]; omega
  · rw [decide_eq_true_iff]; omega
  · rw [decide_eq_true_iff]; omega
theorem wrap_sub (a b d : Int) (h : a - b = d) (h1 : 0 ≤ d) (h2 : d ≤ 100) : IntKind.i64.wrap (a - b) = d := by rw [h, IntWalk.i64_in _ (by omega)]
theorem let_facts (p : Nat) (r : List Nat) (h1 : 32768 ≤ p) (h2 : p ≤ 32868) (h3 : p % 4 = 0) : ∃ d q y : Nat, y < 256 ∧ Hid (IntKind.i64.wrap ((p : Int) - 32768) = (d : Int) ∧ wrap64 ((d : Int) / 4) = (q : Int) ∧ IntKind.i64.wrap (65 + (q : Int)) = (y : Int) ∧ initL (p :: r) = [y]) := by
  have hi := i_let p r ⟨h1, h2, h3⟩
  obtain ⟨d, hd⟩ : ∃ d : Nat, d = p - 32768 := ⟨_, rfl⟩
  rw [← hd] at hi
  have hd1 : (p : Int) - 32768 = (d : Int) := by omega
  have hd2 : d ≤ 100 := by omega
  have hw := wrap_sub _ _ _ hd1 (by omega) (by omega)
  clear hd hd1 h1 h2 h3
  refine ⟨d, d / 4, 65 + d / 4, by omega, Lib.hid ⟨hw, ?_, ?_, hi⟩⟩
  · rw [IntWalk.wrap64_in _ (by omega)]; omega
  · rw [IntWalk.i64_in _ (by omega)]; omega

set_option maxRecDepth 100000 in
set_option maxHeartbeats 4000000 in
theorem Initial_lib (s : ByteArray) (o : Opt) (w : World) :
    Calls Tryd.prog 28 #[.string s, optV o] w (InitE w (errC o [s]) (initR o s)) := by
  have CK : Hid (∀ (v : Value) (w : World), Sl encS 1 w w.heap.size v [s] → Calls Tryd.prog 34 #[optV o, v] w fun e w' => e = .returned (.int .i64 (errC o [s])) ∧ Below w.heap.size w w') := Lib.hid (fun v w h => checkS_lib o v [s] w h)
  obtain ⟨E, hE⟩ : ∃ E, E = errC o [s] := ⟨_, rfl⟩
  rw [← hE] at CK ⊢
  by_cases h0 : E = 0
  · obtain ⟨hst, hok⟩ := errC_ok (hE.symm.trans h0)
    obtain ⟨hs1, hs2⟩ := hok s (by simp)
    have CA : Hid (∀ w : World, Calls Tryd.prog 36 #[.string s, optV o] w (ElsE w (elS o s))) := Lib.hid (fun w => elements_lib s o w (by omega) hs2)
    have hl := elS_len (o := o) hs1 hs2
    have hIR : initR o s = initL (wts El.p (elS o s)) := by unfold initR; rw [← hE, if_pos h0]
    obtain ⟨R, hR⟩ : ∃ R, R = elS o s := ⟨_, rfl⟩
    rw [← hR] at CA hl hIR
    obtain ⟨I, hI⟩ : ∃ I, I = initR o s := ⟨_, rfl⟩
    rw [← hI] at hIR ⊢
    have HIR := Lib.hid hIR
    have hl2 : R.length ≤ 1048576 := by omega
    clear hI hIR hl
    clear hE hok hs1 hs2 hst hR
    subst h0
    obtain ⟨st, num, ign, up⟩ := o
    change Hid (∀ w : World, Calls Tryd.prog 36 #[.string s, .agg #[.int .i64 st, .bool num, .bool ign, .bool up]] w (ElsE w R)) at CA
    change Hid (∀ (v : Value) (w : World), Sl encS 1 w w.heap.size v [s] → Calls Tryd.prog 34 #[.agg #[.int .i64 st, .bool num, .bool ign, .bool up], v] w fun e w' => e = .returned (.int .i64 0) ∧ Below w.heap.size w w') at CK
    show Calls Tryd.prog 28 #[.string s, .agg #[.int .i64 st, .bool num, .bool ign, .bool up]] w _
    go_enter Tryd.func28, Tryd.ntmps28
    go_wp2_with fail
    have B0 := Box.start w st num ign up
    have b0 : Below w.heap.size w (w.alloc (.cells #[.int .i64 st, .bool num, .bool ign, .bool up] 23)) := (Below.refl w.heap.size w).alloc (Nat.le_refl _) _
    have hz0 : (w.alloc (.cells #[.int .i64 st, .bool num, .bool ign, .bool up] 23)).heap.size = w.heap.size + 1 := by simp
    obtain ⟨w0, hw0⟩ : ∃ w0, w0 = w.alloc (.cells #[.int .i64 st, .bool num, .bool ign, .bool up] 23) := ⟨_, rfl⟩
    rw [← hw0] at B0 b0 hz0 ⊢
    clear hw0
    refine (CK.out _ _ ?_).mono ?_
    · have := Sl.fresh (enc := encS) (fun _ => rfl) w0 9 [s] (by simp [maxLen])
      rw [show (w0.alloc (Obj.cells #[Value.string s] 9)).heap.size = w0.heap.size + 1 from by simp]
      rw [hz0] at this ⊢
      exact this
    rintro e w1 ⟨rfl, b1⟩
    have b01 : Below w0.heap.size w0 (w0.alloc (Obj.cells #[Value.string s] 9)) := (Below.refl _ _).alloc (Nat.le_refl _) _
    have b1' : Below w0.heap.size w0 w1 := b01.trans (b1.mono b01.size)
    obtain ⟨c0, c1, c2, c3⟩ := B0.over b1'
    have bb1 : Below w.heap.size w w1 := b0.trans (b1'.mono b0.size)
    clear b1 b01 b1' b0 B0 CK
    go_wp2_with fail
    refine (CA.out _).mono ?_
    rintro e w2 ⟨vx, rfl, hsx, b2⟩
    have bb2 := bb1.trans (b2.mono bb1.size)
    clear b2 CA c0 c1 c2 c3
    go_wp2_with fail
    refine (weights_one vx R w2 hsx hl2).mono ?_
    rintro e w3 ⟨v3, rfl, hO3, b3⟩
    have bb := bb2.trans (b3.mono bb2.size)
    have hS := hO3.sl encI_length
    clear b3 bb2 hsx hO3
    obtain ⟨P, hP⟩ : ∃ P, P = wts El.p R := ⟨_, rfl⟩
    rw [← hP] at HIR hS
    clear hP
    obtain ⟨A, c, rfl, hlc, hcm, _⟩ := id hS
    unfold maxLen at hcm
    cases hPP : P with
    | nil =>
      have HT : Hid (bytesN ⟨#[]⟩ = I) := Lib.hid (by rw [HIR.out, hPP]; rfl)
      subst hPP
      clear hS HIR
      go_wp2_with fail
      go_ret2
      exact ⟨_, rfl, HT.out, bb⟩
    | cons p r =>
      obtain ⟨b, o, hA, hbB, c0⟩ := Ints.at hS 0 p (by rw [hPP]; rfl)
      subst hA
      rw [Nat.add_zero] at c0
      have hln : P.length = r.length + 1 := by rw [hPP]; rfl
      obtain ⟨n, hn⟩ : ∃ n, n = P.length := ⟨_, rfl⟩
      rw [← hn] at hlc hln
      have hn0 : 0 < n := by omega
      have hn0' : (0 : Int) < (n : Int) := by omega
      have dn : ((n : Int) == 0) = false := by rw [beq_eq_false_iff_ne]; omega
      have HII : Hid (I = initL (p :: r)) := Lib.hid (by rw [HIR.out, hPP])
      rw [← hPP, ← hn]
      clear hS HIR hPP hln hn
      have hcase : (p < 512) ∨ (512 ≤ p ∧ p < 32768) ∨ (32768 ≤ p ∧ p ≤ 32868 ∧ p % 4 = 0) ∨ (32768 ≤ p ∧ p ≤ 32868 ∧ ¬ p % 4 = 0) ∨ (32868 < p) := by omega
      rcases hcase with h | h | h | h | h
      · have t1 : decide (32768 ≤ (p : Int)) = false := by simp; omega
        have t2 : decide ((p : Int) ≤ 32868) = true := by simp; omega
        have t3 : decide (512 ≤ (p : Int)) = false := by simp; omega
        have t4 : decide ((p : Int) < 32768) = true := by simp; omega
        have HT : Hid (bytesN ⟨#[]⟩ = I) := Lib.hid (by rw [HII.out, i_nil p r (by omega) (by omega)]; rfl)
        clear HII
        go_wp2_with fail
        go_ret2
        exact ⟨_, rfl, HT.out, bb⟩
      · have t1 : decide (32768 ≤ (p : Int)) = false := by simp; omega
        have t2 : decide ((p : Int) ≤ 32868) = true := by simp; omega
        have t3 : decide (512 ≤ (p : Int)) = true := by simp; omega
        have t4 : decide ((p : Int) < 32768) = true := by simp; omega
        have HT : Hid (bytesN ⟨#[48, 45, 57]⟩ = I) := Lib.hid (by rw [HII.out, i_num p r h]; rfl)
        clear HII
        go_wp2_with fail
        go_ret2
        exact ⟨_, rfl, HT.out, bb⟩
      · obtain ⟨hm1, t1, t2⟩ := let_tests p h.1 h.2.1 h.2.2
        obtain ⟨d, q, y, hyb, H1⟩ := let_facts p r h.1 h.2.1 h.2.2
        have hm2 : Hid (((p : Int) % 4 == 0) = true) := Lib.hid (by rw [beq_iff_eq]; omega)
        clear h hm1
        go_upto_if 23 with fail
        rw [hm2.out]
        obtain ⟨e1, e2, e3, e4⟩ := H1.out
        have kc := conv_one w3 y hyb
        have HT : Hid (bytesN ⟨#[UInt8.ofNat y]⟩ = I) := Lib.hid (by rw [bytesN_one y hyb, HII.out, e4])
        clear e4 HII hm2 H1
        go_wp2_with fail
        go_ret2
        exact ⟨_, rfl, HT.out, (bb.alloc bb.size _)⟩
      · have t1 : decide (32768 ≤ (p : Int)) = true := by simp; omega
        have t2 : decide ((p : Int) ≤ 32868) = true := by simp; omega
        have t3 : decide (512 ≤ (p : Int)) = true := by simp; omega
        have t4 : decide ((p : Int) < 32768) = false := by simp; omega
        have hm1 : ((p : Int).tmod 4 == 0) = false := by rw [Int.tmod_eq_emod_of_nonneg (by omega), beq_eq_false_iff_ne]; omega
        have hm2 : ((p : Int) % 4 == 0) = false := by rw [beq_eq_false_iff_ne]; omega
        have hm3 : ¬ (p : Int) % 4 = 0 := by omega
        have hm4 : ¬ (p : Int).tmod 4 = 0 := by rw [Int.tmod_eq_emod_of_nonneg (by omega)]; omega
        have HT : Hid (bytesN ⟨#[]⟩ = I) := Lib.hid (by rw [HII.out, i_nil p r (by omega) (by omega)]; rfl)
        clear HII
        go_wp2_with fail
        go_ret2
        exact ⟨_, rfl, HT.out, bb⟩
      · have t1 : decide (32768 ≤ (p : Int)) = true := by simp; omega
        have t2 : decide ((p : Int) ≤ 32868) = false := by simp; omega
        have t3 : decide (512 ≤ (p : Int)) = true := by simp; omega
        have t4 : decide ((p : Int) < 32768) = false := by simp; omega
        have HT : Hid (bytesN ⟨#[]⟩ = I) := Lib.hid (by rw [HII.out, i_nil p r (by omega) (by omega)]; rfl)
        clear HII
        go_wp2_with fail
        go_ret2
        exact ⟨_, rfl, HT.out, bb⟩
  · have HR : Hid (bytesN ⟨#[]⟩ = initR o s) := Lib.hid (by unfold initR; rw [← hE, if_neg h0]; rfl)
    have d0 : (E != 0) = true := by simpa using h0
    obtain ⟨R, hRR⟩ : ∃ R, R = initR o s := ⟨_, rfl⟩
    rw [← hRR] at HR ⊢
    clear hE h0 hRR
    obtain ⟨st, num, ign, up⟩ := o
    change Hid (∀ (v : Value) (w : World), Sl encS 1 w w.heap.size v [s] → Calls Tryd.prog 34 #[.agg #[.int .i64 st, .bool num, .bool ign, .bool up], v] w fun e w' => e = .returned (.int .i64 E) ∧ Below w.heap.size w w') at CK
    show Calls Tryd.prog 28 #[.string s, .agg #[.int .i64 st, .bool num, .bool ign, .bool up]] w _
    go_enter Tryd.func28, Tryd.ntmps28
    go_wp2_with fail
    have b0 : Below w.heap.size w (w.alloc (.cells #[.int .i64 st, .bool num, .bool ign, .bool up] 23)) := (Below.refl w.heap.size w).alloc (Nat.le_refl _) _
    have hz0 : (w.alloc (.cells #[.int .i64 st, .bool num, .bool ign, .bool up] 23)).heap.size = w.heap.size + 1 := by simp
    obtain ⟨w0, hw0⟩ : ∃ w0, w0 = w.alloc (.cells #[.int .i64 st, .bool num, .bool ign, .bool up] 23) := ⟨_, rfl⟩
    rw [← hw0] at b0 hz0 ⊢
    clear hw0
    refine (CK.out _ _ ?_).mono ?_
    · have := Sl.fresh (enc := encS) (fun _ => rfl) w0 9 [s] (by simp [maxLen])
      rw [show (w0.alloc (Obj.cells #[Value.string s] 9)).heap.size = w0.heap.size + 1 from by simp]
      rw [hz0] at this ⊢
      exact this
    rintro e w1 ⟨rfl, b1⟩
    have b01 : Below w0.heap.size w0 (w0.alloc (Obj.cells #[Value.string s] 9)) := (Below.refl _ _).alloc (Nat.le_refl _) _
    have bb : Below w.heap.size w w1 := b0.trans ((b01.trans (b1.mono b01.size)).mono b0.size)
    clear b1 b01 b0 CK
    go_wp2_with fail
    go_ret2
    exact ⟨⟨#[]⟩, rfl, HR.out, bb⟩


end Go.Proofs.YtknnjnginmkblaaDoor
