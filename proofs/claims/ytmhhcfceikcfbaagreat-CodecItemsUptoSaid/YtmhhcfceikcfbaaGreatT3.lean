/- What stands in memory lies in the domains of the readers; the arguments of the laws. -/
import Derived.Test.YtmhhcfceikcfbaaGreatT2
import Derived.Test.YtmhhcfceikcfbaaGreatF1
namespace Go.Proofs.YtmhhcfceikcfbaaGreat
open Go.RowKit Go.WideShapes

def Dom {α : Type} (R : Rp α) (D : α → Prop) : Prop := ∀ w G vs x, R w G vs x → D x
theorem dom_slv {α : Type} {R : Rp α} {D : α → Prop} (h : Dom R D) {sz : Nat} {w : World} {G : Nat → Prop} {v : Value} {l : List α} (hv : Slv R sz w G v l) : Li D l := by
  obtain ⟨A, c, rfl, h1, h2⟩ := hv.shape
  unfold maxLen at h2
  refine ⟨by omega, fun x hx => ?_⟩
  obtain ⟨i, hi⟩ := List.mem_iff_getElem?.1 hx
  obtain ⟨_, _, vs, _, _, _, _, hR, _⟩ := hv.at i x hi
  exact h _ _ _ _ hR
theorem dom_two : Dom twoP twoD := fun _ _ _ _ h => h.2
theorem dom_lay : Dom layP layD := fun _ _ _ _ h => h.2
theorem dom_hd : Dom hdP hdD := by
  rintro w G vs x ⟨_, _, _, _, a, b, h1, h2, h3⟩
  exact ⟨dom_slv dom_two h1, a, b, dom_slv dom_two h2, dom_slv dom_lay h3⟩
theorem dom_lvl : Dom lvlP lvlD := fun _ _ _ _ h => h.2
theorem dom_sty : Dom styP styD := by
  rintro w G vs x ⟨_, _, ⟨a, b, c, d, e⟩, h⟩
  exact ⟨a, b, c, d, e, dom_slv dom_two h⟩
theorem dom_lst : Dom lstP lstD := by
  rintro w G vs x ⟨_, _, a, h⟩
  exact ⟨a, dom_slv dom_lvl h⟩
theorem dom_cmt : Dom cmtP cmtD := fun _ _ _ _ h => h.2
theorem dom_vr : Dom vrP vrD := fun _ _ _ _ h => h.2
theorem dom_stg : Dom stgP stgD := by
  rintro w G vs x ⟨_, _, _, _, _, h1, h2, h3, h4⟩
  exact ⟨dom_slv dom_sty h1, dom_slv dom_lst h2, dom_slv dom_cmt h3, dom_slv dom_vr h4⟩
theorem dom_ce {α : Type} {R : Rp α} {D : α → Prop} (h : Dom R D) : Dom (ceP R) (ceD D) := by
  rintro w G vs x ⟨_, _, _, _, _, _, _, a, b, c⟩
  exact ⟨a, dom_hd _ _ _ _ b, dom_slv h c⟩
theorem dom_rw {α : Type} {R : Rp α} {D : α → Prop} (h : Dom R D) : Dom (rwP R) (rwD D) := by
  rintro w G vs x ⟨_, _, _, _, _, _, _, b, c⟩
  exact ⟨dom_hd _ _ _ _ b, dom_slv (dom_ce h) c⟩
theorem dom_is {α : Type} {R : Rp α} {D : α → Prop} (h : Dom R D) : Dom (isP R) (isD D) := by
  rintro w G vs x ⟨_, _, _, _, _, _, _, _, ⟨a, b, c, d⟩, e, f, g⟩
  exact ⟨a, b, c, d, dom_hd _ _ _ _ e, dom_slv h f, dom_slv (dom_rw h) g⟩
theorem dom_it : ∀ n, Dom (itP n) (itD n)
  | 0 => fun _ _ _ x _ => Empty.elim x
  | n + 1 => dom_is (dom_it n)
def pcD (n : Nat) (x : Pc n) : Prop := Li (itD n) x.1 ∧ Li (rwD (itD n)) x.2.1 ∧ Li (ceD (itD n)) x.2.2.1 ∧ hdD x.2.2.2.1 ∧ stgD x.2.2.2.2
theorem dom_pc (n : Nat) : Dom (pcP n) (pcD n) := by
  rintro w G vs x ⟨_, _, _, _, _, _, _, _, _, _, _, _, _, h1, h2, h3, h4, h5⟩
  exact ⟨dom_slv (dom_it n) h1, dom_slv (dom_rw (dom_it n)) h2, dom_slv (dom_ce (dom_it n)) h3, dom_hd _ _ _ _ h4, dom_stg _ _ _ _ h5⟩
theorem fit_pcD (n : Nat) : Fit (pcE n) (pcR n) (pcD n) := (fit_its n).seq ((((fit_it n).rw (itE_ne n)).list rwE_ne).seq ((((fit_it n).ce (itE_ne n)).list ceE_ne).seq (fit_hd.seq fit_stg)))
def spD (n : Nat) (x : Sp n) : Prop := I64 x.1 ∧ I64 x.2.1 ∧ I64 x.2.2.1 ∧ I64 x.2.2.2.1 ∧ pcD n x.2.2.2.2.1 ∧ pcD n x.2.2.2.2.2
theorem dom_sp (n : Nat) : Dom (spP n) (spD n) := by
  rintro w G vs x ⟨_, _, _, _, ⟨a, b, c, d⟩, h1, h2⟩
  exact ⟨a, b, c, d, dom_pc n _ _ _ _ h1, dom_pc n _ _ _ _ h2⟩
theorem fit_spD (n : Nat) : Fit (spE n) (spR n) (spD n) := fitN.seq (fitN.seq (fitN.seq (fitN.seq ((fit_pcD n).seq (fit_pcD n)))))
def edD (n : Nat) (x : Ed n) : Prop := (x.1.length = 10 ∧ ∀ y ∈ x.1, I64 y) ∧ True ∧ Li (itD n) x.2.2.1 ∧ Li (rwD (itD n)) x.2.2.2.1 ∧ Li (ceD (itD n)) x.2.2.2.2.1 ∧ stgD x.2.2.2.2.2
theorem dom_ed (n : Nat) : Dom (edP n) (edD n) := by
  rintro w G vs x ⟨_, _, _, _, _, _, _, _, a, h1, h2, h3, h4⟩
  exact ⟨a, trivial, dom_slv (dom_it n) h1, dom_slv (dom_rw (dom_it n)) h2, dom_slv (dom_ce (dom_it n)) h3, dom_stg _ _ _ _ h4⟩
theorem fit_edD (n : Nat) : Fit (edE n) (edR n) (edD n) := fit_ten.seq (fitB.seq ((fit_its n).seq ((((fit_it n).rw (itE_ne n)).list rwE_ne).seq ((((fit_it n).ce (itE_ne n)).list ceE_ne).seq fit_stg))))
/-- What was written is read again whole. -/
theorem back_whole {α : Type} {e : α → List Nat} {p : Rd α} {d : α → Prop} (h : Fit e p d) (hb : Byt e) {x : α} (hx : d x) : p (bytesN (mkB (e x))) = .ok x (mkB (e x)).size ∧ decErr p (bytesN (mkB (e x))) = 0 := by
  have h1 := h.back x hx []
  rw [List.append_nil] at h1
  rw [bytesN_mkB (hb x), mkB_size]
  refine ⟨h1, ?_⟩
  unfold decErr
  rw [h1]
  simp
section
variable {H : Type} {enc : TypeId × Value → H}
set_option maxRecDepth 100000
/-- An argument: a splice. The depth may be chosen great. -/
theorem splice_of_arg {W : World} {r : Reach} {b0 : Nat} {v : Value} {d : DataW H} {p : List MemPlace} (hv : Value.okWide Tryz.prog W r b0 77 v) (h : DataW.Trod enc Tryz.prog W 0 (fun _ => true) true 77 v d p) (hb : Rows.uptoBulk d ≤ 1048576) (m : Nat) :
    ∃ n, m ≤ n ∧ ∃ (vs : List Value) (x : Sp n), v = .agg vs.toArray ∧ vs.length = 28 ∧ spP n W (fun b => b < W.heap.size) vs x ∧ (spE n x).length ≤ 10485760 := by
  obtain ⟨cs, rfl, _⟩ := okWide_struct Tryz.underlying77 hv
  obtain ⟨fuel, hf⟩ := h
  obtain ⟨h1, x, h2, h3⟩ := rdA_77 (enc := enc) (w := W) (max fuel m) fuel _ _ (by omega) hf hb
  exact ⟨max fuel m, by omega, cs.toList, x, by simp, h1, h2, by simp only at h3; omega⟩
theorem edit_of_arg {W : World} {r : Reach} {b0 : Nat} {v : Value} {d : DataW H} {p : List MemPlace} (hv : Value.okWide Tryz.prog W r b0 68 v) (h : DataW.Trod enc Tryz.prog W 0 (fun _ => true) true 68 v d p) (hb : Rows.uptoBulk d ≤ 1048576) (m : Nat) :
    ∃ n, m ≤ n ∧ ∃ (vs : List Value) (x : Ed n), v = .agg vs.toArray ∧ vs.length = 18 ∧ edP n W (fun b => b < W.heap.size) vs x ∧ (edE n x).length ≤ 10485760 := by
  obtain ⟨cs, rfl, _⟩ := okWide_struct Tryz.underlying68 hv
  obtain ⟨fuel, hf⟩ := h
  obtain ⟨h1, x, h2, h3⟩ := rdA_68 (enc := enc) (w := W) (max fuel m) fuel _ _ (by omega) hf hb
  exact ⟨max fuel m, by omega, cs.toList, x, by simp, h1, h2, by simp only at h3; omega⟩
end
end Go.Proofs.YtmhhcfceikcfbaaGreat
