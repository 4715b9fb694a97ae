/- Plain law: edits and splices fit; words for the law on bytes. -/
import Derived.Test.YtmhhcfceikcfbaaGreatD1
import Derived.Test.YtmhhcfceikcfbaaGreatE1
import Derived.Test.YtmhhcfceikcfbaaGreatL7
import Derived.Test.YtmhhcfceikcfbaaGreatK2
namespace Go.Proofs.YtmhhcfceikcfbaaGreat
open Go.RowKit

theorem fit_ten : Fit tenE (manyR rdN 10) (fun l => l.length = 10 ∧ ∀ y ∈ l, I64 y) where
  back := fun x hx r => by
    have h := many_back fitN x hx.2 r
    rw [hx.1] at h
    exact h
  read := fun l x k hb hp => by
    obtain ⟨a, b, c, d⟩ := many_only fitN 10 l x k hb hp
    exact ⟨a, b, by first | exact ⟨d, c⟩ | exact ⟨c, d⟩⟩
  cuts := fun x hx q hq => by
    obtain ⟨r, hr, he⟩ := hq
    have h := many_cuts fitN x hx.2 q r hr he
    rw [hx.1] at h
    exact h
theorem fit_pc (n : Nat) : ∃ d, Fit (pcE n) (pcR n) d := ⟨_, (fit_its n).seq ((((fit_it n).rw (itE_ne n)).list rwE_ne).seq ((((fit_it n).ce (itE_ne n)).list ceE_ne).seq (fit_hd.seq fit_stg)))⟩
theorem fit_sp (n : Nat) : ∃ d, Fit (spE n) (spR n) d := by
  obtain ⟨d, h⟩ := fit_pc n
  exact ⟨_, fitN.seq (fitN.seq (fitN.seq (fitN.seq (h.seq h))))⟩
theorem fit_ed (n : Nat) : ∃ d, Fit (edE n) (edR n) d :=
  ⟨_, fit_ten.seq (fitB.seq ((fit_its n).seq ((((fit_it n).rw (itE_ne n)).list rwE_ne).seq ((((fit_it n).ce (itE_ne n)).list ceE_ne).seq fit_stg))))⟩
theorem whole {α : Type} {e : α → List Nat} {p : Rd α} {d : α → Prop} (h : Fit e p d) {s : ByteArray} {x : α} (hx : p (bytesN s) = .ok x s.size) : e x = bytesN s ∧ mkB (e x) = s := by
  obtain ⟨_, h2, _⟩ := h.read _ x _ (bytesN_lt s) hx
  have h3 : e x = bytesN s := by
    rw [← h2, List.take_of_length_le]
    rw [bytesN_length]
    exact Nat.le_refl _
  refine ⟨h3, bytesN_inj ?_⟩
  rw [h3, bytesN_mkB (bytesN_lt s)]
theorem ed0_small (n : Nat) : (edE n (ed0 n)).length ≤ 1099511627776 := by
  simp [edE, seqE, tenE, ed0, flagE, listE, stgE, enc_0]
theorem sp0_small (n : Nat) : (spE n (sp0 n)).length ≤ 1099511627776 := by
  simp [spE, seqE, sp0, pc0, pcE, hd00, hdE, listE, stgE, enc_0]
theorem dec_small {α : Type} {e : α → List Nat} {p : Rd α} {d : α → Prop} (h : Fit e p d) {s : ByteArray} {x z : α} {E : Int} (hs : s.size ≤ 1099511627776) (h0 : (e z).length ≤ 1099511627776) (h1 : E ≠ 0 → x = z) (h2 : E = 0 → p (bytesN s) = .ok x s.size) : (e x).length ≤ 1099511627776 := by
  rcases Int.decEq E 0 with q | q
  · rw [h1 q]; exact h0
  · rw [(whole h (h2 q)).1, bytesN_length]; exact hs
theorem ed_len {n : Nat} {w : World} {G : Nat → Prop} {vs : List Value} {x : Ed n} (h : edP n w G vs x) : vs.length = 18 := by
  obtain ⟨fv, rv, cv, s0, s1, s2, s3, rfl, ⟨hl, _⟩, _⟩ := h
  simp [hl]
theorem sp_len {n : Nat} {w : World} {G : Nat → Prop} {vs : List Value} {x : Sp n} (h : spP n w G vs x) : vs.length = 28 := by
  obtain ⟨a, b, rfl, hl, _, _, hb⟩ := h
  have := pc_len hb
  simp [hl, this]
theorem below_new {B : Nat} {b c : World} (hB : B ≤ b.heap.size) (o : Obj) (hg : (b.alloc o).grownBy c (some b.heap.size)) : Below B b c :=
  ((Below.refl B b).alloc hB o).grown hg (by simp; omega) (fun k hk => by injection hk with hk; omega)
theorem below_store {B g : Nat} {b c : World} (hB : B ≤ b.heap.size) (hg : b.grownBy c (some g)) (h : B ≤ g) : Below B b c :=
  (Below.refl B b).grown hg hB (fun k hk => by injection hk with hk; omega)
/-- A row that is loaded whole. -/
theorem run_row {P : Program} {o : Oper} {a : Act} {w : World} (ty : TypeId) (x : Operand) (ho : o.op = .load ty x) (g : Nat) (t : TypeId) (cs : Array Value) (d : TypeDesc)
    (hx : a.eval x = .pointer (some ⟨g, 0, none⟩)) (hg : w.heap[g]? = some (.cells cs t (0, 0))) (hu : P.underlying ty = some d) (hd : (match d with | .struct _ | .array _ _ => true | _ => false) = true) (hi : (P.info? ty).map (·.size) = some cs.size) :
    (execOp a.eval o).run P w = .ok (.value (.agg cs)) w := by
  unfold execOp
  simp only [ho, hx, Instr.loadAt, Instr.sureAddr, Sem.run_bind, Sem.run_pure, Result.andThen_ok, run_loadVar_row w g t ty cs (0, 0) d hg hu hd hi]
theorem rep_gap {α : Type} {R : Rp α} (hR : Stb R) {N M r : Nat} {w w' : World} {vs : List Value} {x : α} (h : R w (fun b => N ≤ b ∧ b < M) vs x) (hg : w.grownBy w' (some r)) (hr : r < N ∨ M ≤ r) : R w' (fun b => N ≤ b ∧ b < M) vs x :=
  hR _ _ _ _ _ _ (fun _ h => h) (fun b hb hlt => hg.block b hlt (fun q => by injection q with q; obtain ⟨h1, h2⟩ := hb; omega)) h
theorem rep_below {α : Type} {R : Rp α} (hR : Stb R) {N M B : Nat} {w w' : World} {vs : List Value} {x : α} (h : R w (fun b => N ≤ b ∧ b < M) vs x) (hb : Below B w w') (hM : M ≤ B) : R w' (fun b => N ≤ b ∧ b < M) vs x :=
  hR _ _ _ _ _ _ (fun _ h => h) (fun b hG _ => hb.block b (Nat.lt_of_lt_of_le hG.2 hM)) h
theorem code_28 {α : Type} {p : Rd α} {s : ByteArray} {x : α} {k : Nat} {e : Int} (h : Res p s 0 0 x k e) : (if k < s.size then errC e 15 else e) = decErr p (bytesN s) ∧ (decErr p (bytesN s) = 0 → p (bytesN s) = .ok x s.size) := dec_code h
theorem ok_same {α : Type} {p : Rd α} {L : List Nat} {x y : α} {n m : Nat} (h : p L = .ok x n) (g : p L = .ok y m) : y = x := by
  rw [h] at g
  injection g with g1
  exact g1.symm
end Go.Proofs.YtmhhcfceikcfbaaGreat
