/- Plainly: the records of a document, written and read back. -/
import Derived.Test.YtmhhcfceikcfbaaGreatPl
namespace Go.Proofs.YtmhhcfceikcfbaaGreat

def bytesN (s : ByteArray) : List Nat := s.data.toList.map UInt8.toNat
def mkB (l : List Nat) : ByteArray := ⟨(l.map UInt8.ofNat).toArray⟩
theorem bytesN_lt (s : ByteArray) : ∀ b ∈ bytesN s, b < 256 := fun b hb => by
  obtain ⟨c, _, rfl⟩ := List.mem_map.1 hb
  exact c.toNat_lt
theorem bytesN_length (s : ByteArray) : (bytesN s).length = s.size := by simp [bytesN]
theorem mkB_bytesN (s : ByteArray) : mkB (bytesN s) = s := by
  have h : ((bytesN s).map UInt8.ofNat) = s.data.toList := by
    unfold bytesN
    rw [List.map_map]
    have : UInt8.ofNat ∘ UInt8.toNat = id := by funext x; simp
    rw [this, List.map_id]
  unfold mkB
  rw [h]
theorem bytesN_mkB {l : List Nat} (h : ∀ b ∈ l, b < 256) : bytesN (mkB l) = l := by
  unfold bytesN mkB
  rw [List.map_map]
  conv => rhs; rw [← List.map_id l]
  refine List.map_congr_left fun b hb => ?_
  simp only [Function.comp, id, UInt8.toNat_ofNat']
  exact Nat.mod_eq_of_lt (h b hb)
theorem bytesN_inj {s t : ByteArray} (h : bytesN s = bytesN t) : s = t := by rw [← mkB_bytesN s, h, mkB_bytesN]
def strE (s : ByteArray) : List Nat := textE (bytesN s)
def strR : Rd ByteArray := fun l => (textR l).map mkB
theorem fitS : Fit strE strR (fun s => s.size ≤ 9223372036854775807) where
  back s hs r := by
    unfold strE strR
    rw [fitT.back _ ⟨by rw [bytesN_length]; exact hs, bytesN_lt s⟩]
    simp [Rs.map, mkB_bytesN]
  read l s k hl hp := by
    unfold strR at hp
    cases hr : textR l with
    | err e => rw [hr] at hp; cases hp
    | ok x n =>
      rw [hr] at hp
      unfold Rs.map at hp
      injection hp with e1 e2
      subst e1 e2
      obtain ⟨a1, a2, a3, a4⟩ := fitT.read l x n hl hr
      refine ⟨a1, ?_, ?_⟩
      · unfold strE
        rw [bytesN_mkB a4]
        exact a2
      · rw [← bytesN_length, bytesN_mkB a4]
        exact a3
  cuts s hs q hq := by
    unfold strR
    rw [fitT.cuts _ ⟨by rw [bytesN_length]; exact hs, bytesN_lt s⟩ q hq]
    rfl
theorem encN_ne (n : Int) : encN n ≠ [] := vb_ne _
theorem strE_ne (s : ByteArray) : strE s ≠ [] := by
  unfold strE textE
  intro h
  exact encN_ne _ (List.append_eq_nil_iff.1 h).1
theorem listE_ne {α : Type} {e : α → List Nat} (l : List α) : listE e l ≠ [] := by
  unfold listE
  intro h
  exact encN_ne _ (List.append_eq_nil_iff.1 h).1
theorem seqE_ne {α β : Type} {e : α → List Nat} {f : β → List Nat} (h : ∀ x, e x ≠ []) (x : α × β) : seqE e f x ≠ [] := by
  unfold seqE
  intro h2
  exact h _ (List.append_eq_nil_iff.1 h2).1

abbrev Two := Int × Int
abbrev Lay := Int × Int × Int × Bool
abbrev Hd := List Two × Int × Int × List Two × List Lay
abbrev Lvl := Int × Int × ByteArray × Int
abbrev Sty := Int × Int × ByteArray × Int × Int × List Two
abbrev Lst := Int × List Lvl
abbrev Cmt := Int × Int × ByteArray × Int × ByteArray × Bool
abbrev Vr := ByteArray × ByteArray
abbrev Rev := Int × ByteArray × Int
abbrev Stg := List Sty × List Lst × List Cmt × List Vr
abbrev ItS (α : Type) := Int × Int × Int × ByteArray × Hd × List α × List (Hd × List (Int × Hd × List α))
def It : Nat → Type
  | 0 => Empty
  | n + 1 => ItS (It n)
abbrev Ce (n : Nat) := Int × Hd × List (It n)
abbrev Rw (n : Nat) := Hd × List (Ce n)

def twoE : Two → List Nat := seqE encN encN
def layE : Lay → List Nat := seqE encN (seqE encN (seqE encN flagE))
def hdE : Hd → List Nat := seqE (listE twoE) (seqE encN (seqE encN (seqE (listE twoE) (listE layE))))
def lvlE : Lvl → List Nat := seqE encN (seqE encN (seqE strE encN))
def styE : Sty → List Nat := seqE encN (seqE encN (seqE strE (seqE encN (seqE encN (listE twoE)))))
def lstE : Lst → List Nat := seqE encN (listE lvlE)
def cmtE : Cmt → List Nat := seqE encN (seqE encN (seqE strE (seqE encN (seqE strE flagE))))
def vrE : Vr → List Nat := seqE strE strE
def revE : Rev → List Nat := seqE encN (seqE strE encN)
def stgE : Stg → List Nat := seqE (listE styE) (seqE (listE lstE) (seqE (listE cmtE) (listE vrE)))
def ceE {α : Type} (e : α → List Nat) : Int × Hd × List α → List Nat := seqE encN (seqE hdE (listE e))
def rwE {α : Type} (e : α → List Nat) : Hd × List (Int × Hd × List α) → List Nat := seqE hdE (listE (ceE e))
def isE {α : Type} (e : α → List Nat) : ItS α → List Nat := seqE encN (seqE encN (seqE encN (seqE strE (seqE hdE (seqE (listE e) (listE (rwE e)))))))
def itE : (n : Nat) → It n → List Nat
  | 0 => fun x => Empty.elim x
  | n + 1 => isE (itE n)
def twoR : Rd Two := seqR rdN rdN
def layR : Rd Lay := seqR rdN (seqR rdN (seqR rdN flagR))
def hdR : Rd Hd := seqR (listR twoR) (seqR rdN (seqR rdN (seqR (listR twoR) (listR layR))))
def lvlR : Rd Lvl := seqR rdN (seqR rdN (seqR strR rdN))
def styR : Rd Sty := seqR rdN (seqR rdN (seqR strR (seqR rdN (seqR rdN (listR twoR)))))
def lstR : Rd Lst := seqR rdN (listR lvlR)
def cmtR : Rd Cmt := seqR rdN (seqR rdN (seqR strR (seqR rdN (seqR strR flagR))))
def vrR : Rd Vr := seqR strR strR
def revR : Rd Rev := seqR rdN (seqR strR rdN)
def stgR : Rd Stg := seqR (listR styR) (seqR (listR lstR) (seqR (listR cmtR) (listR vrR)))
def ceR {α : Type} (p : Rd α) : Rd (Int × Hd × List α) := seqR rdN (seqR hdR (listR p))
def rwR {α : Type} (p : Rd α) : Rd (Hd × List (Int × Hd × List α)) := seqR hdR (listR (ceR p))
def isR {α : Type} (p : Rd α) : Rd (ItS α) := seqR rdN (seqR rdN (seqR rdN (seqR strR (seqR hdR (seqR (listR p) (listR (rwR p)))))))
def itR : (n : Nat) → Rd (It n)
  | 0 => fun _ => .err 34
  | n + 1 => isR (itR n)

/-- Lists no longer than any machine's. -/
def Li {α : Type} (d : α → Prop) (l : List α) : Prop := l.length ≤ 9223372036854775807 ∧ ∀ x ∈ l, d x
def twoD (x : Two) : Prop := I64 x.1 ∧ I64 x.2
def layD (x : Lay) : Prop := I64 x.1 ∧ I64 x.2.1 ∧ I64 x.2.2.1 ∧ True
def hdD (x : Hd) : Prop := Li twoD x.1 ∧ I64 x.2.1 ∧ I64 x.2.2.1 ∧ Li twoD x.2.2.2.1 ∧ Li layD x.2.2.2.2
def szD (s : ByteArray) : Prop := s.size ≤ 9223372036854775807
def lvlD (x : Lvl) : Prop := I64 x.1 ∧ I64 x.2.1 ∧ szD x.2.2.1 ∧ I64 x.2.2.2
def styD (x : Sty) : Prop := I64 x.1 ∧ I64 x.2.1 ∧ szD x.2.2.1 ∧ I64 x.2.2.2.1 ∧ I64 x.2.2.2.2.1 ∧ Li twoD x.2.2.2.2.2
def lstD (x : Lst) : Prop := I64 x.1 ∧ Li lvlD x.2
def cmtD (x : Cmt) : Prop := I64 x.1 ∧ I64 x.2.1 ∧ szD x.2.2.1 ∧ I64 x.2.2.2.1 ∧ szD x.2.2.2.2.1 ∧ True
def vrD (x : Vr) : Prop := szD x.1 ∧ szD x.2
def revD (x : Rev) : Prop := I64 x.1 ∧ szD x.2.1 ∧ I64 x.2.2
def stgD (x : Stg) : Prop := Li styD x.1 ∧ Li lstD x.2.1 ∧ Li cmtD x.2.2.1 ∧ Li vrD x.2.2.2
def ceD {α : Type} (d : α → Prop) (x : Int × Hd × List α) : Prop := I64 x.1 ∧ hdD x.2.1 ∧ Li d x.2.2
def rwD {α : Type} (d : α → Prop) (x : Hd × List (Int × Hd × List α)) : Prop := hdD x.1 ∧ Li (ceD d) x.2
def isD {α : Type} (d : α → Prop) (x : ItS α) : Prop := I64 x.1 ∧ I64 x.2.1 ∧ I64 x.2.2.1 ∧ szD x.2.2.2.1 ∧ hdD x.2.2.2.2.1 ∧ Li d x.2.2.2.2.2.1 ∧ Li (rwD d) x.2.2.2.2.2.2
def itD : (n : Nat) → It n → Prop
  | 0 => fun x => Empty.elim x
  | n + 1 => isD (itD n)

theorem fit_two : Fit twoE twoR twoD := fitN.seq fitN
theorem fit_lay : Fit layE layR layD := fitN.seq (fitN.seq (fitN.seq fitB))
theorem twoE_ne (x : Two) : twoE x ≠ [] := seqE_ne encN_ne x
theorem layE_ne (x : Lay) : layE x ≠ [] := seqE_ne encN_ne x
theorem fit_hd : Fit hdE hdR hdD := (fit_two.list twoE_ne).seq (fitN.seq (fitN.seq ((fit_two.list twoE_ne).seq (fit_lay.list layE_ne))))
theorem hdE_ne (x : Hd) : hdE x ≠ [] := seqE_ne listE_ne x
theorem fit_lvl : Fit lvlE lvlR lvlD := fitN.seq (fitN.seq (fitS.seq fitN))
theorem fit_sty : Fit styE styR styD := fitN.seq (fitN.seq (fitS.seq (fitN.seq (fitN.seq (fit_two.list twoE_ne)))))
theorem fit_lst : Fit lstE lstR lstD := fitN.seq (fit_lvl.list (fun x => seqE_ne encN_ne x))
theorem fit_cmt : Fit cmtE cmtR cmtD := fitN.seq (fitN.seq (fitS.seq (fitN.seq (fitS.seq fitB))))
theorem fit_vr : Fit vrE vrR vrD := fitS.seq fitS
theorem fit_rev : Fit revE revR revD := fitN.seq (fitS.seq fitN)
theorem fit_stg : Fit stgE stgR stgD := (fit_sty.list (fun x => seqE_ne encN_ne x)).seq ((fit_lst.list (fun x => seqE_ne encN_ne x)).seq ((fit_cmt.list (fun x => seqE_ne encN_ne x)).seq (fit_vr.list (fun x => seqE_ne strE_ne x))))
section
variable {α : Type} {e : α → List Nat} {p : Rd α} {d : α → Prop}
theorem ceE_ne (x : Int × Hd × List α) : ceE e x ≠ [] := seqE_ne encN_ne x
theorem rwE_ne (x : Hd × List (Int × Hd × List α)) : rwE e x ≠ [] := seqE_ne hdE_ne x
theorem isE_ne (x : ItS α) : isE e x ≠ [] := seqE_ne encN_ne x
theorem Fit.ce (h : Fit e p d) (he : ∀ x, e x ≠ []) : Fit (ceE e) (ceR p) (ceD d) := fitN.seq (fit_hd.seq (h.list he))
theorem Fit.rw (h : Fit e p d) (he : ∀ x, e x ≠ []) : Fit (rwE e) (rwR p) (rwD d) := fit_hd.seq ((h.ce he).list ceE_ne)
theorem Fit.is (h : Fit e p d) (he : ∀ x, e x ≠ []) : Fit (isE e) (isR p) (isD d) := fitN.seq (fitN.seq (fitN.seq (fitS.seq (fit_hd.seq ((h.list he).seq ((h.rw he).list rwE_ne))))))
end
theorem itE_ne : ∀ (n : Nat) (x : It n), itE n x ≠ []
  | 0, x => Empty.elim x
  | n + 1, x => isE_ne (e := itE n) x
theorem fit_it : ∀ (n : Nat), Fit (itE n) (itR n) (itD n)
  | 0 => ⟨(fun x => Empty.elim x), (fun _ _ _ _ h => by cases h), (fun x => Empty.elim x)⟩
  | n + 1 => (fit_it n).is (itE_ne n)
theorem fit_its (n : Nat) : Fit (listE (itE n)) (listR (itR n)) (Li (itD n)) := (fit_it n).list (itE_ne n)
end Go.Proofs.YtmhhcfceikcfbaaGreat
