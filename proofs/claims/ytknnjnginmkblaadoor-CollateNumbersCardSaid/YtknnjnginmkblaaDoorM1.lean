/- Plainly: accented letters and their parts. -/
import Derived.Test.YtknnjnginmkblaaDoorPl6
import Derived.Test.YtknnjnginmkblaaDoorR6
namespace Go.Proofs.YtknnjnginmkblaaDoor

theorem pts1 {l : List Nat} {p n : Nat} (h : dec1 l = some (p, n)) (hn : l.drop n = []) : pts l = some [(p, n)] := by
  rw [pts_cons h, hn, pts_nil]; rfl
theorem pts2 {l : List Nat} {p n q m : Nat} (h : dec1 l = some (p, n)) (h2 : dec1 (l.drop n) = some (q, m)) (h3 : (l.drop n).drop m = []) : pts l = some [(p, n), (q, m)] := by
  rw [pts_cons h, pts1 h2 h3]; rfl
/-- An accented letter, the letter with the mark, the letter alone. -/
structure Mk (one two bare : ByteArray) : Prop where
  els : ∃ L M : El, M.p = 0 ∧ 0 < M.s ∧ ∀ k : Int, elS ⟨k, false, false, false⟩ one = [L, M] ∧ elS ⟨k, false, false, false⟩ two = [L, M] ∧ elS ⟨k, false, false, false⟩ bare = [L]
  v1 : (pts (bytesN one)).isSome = true
  v2 : (pts (bytesN two)).isSome = true
  v3 : (pts (bytesN bare)).isSome = true
  z1 : one.size ≤ 4
  z2 : two.size ≤ 4
  z3 : bare.size ≤ 4
  z4 : 1 ≤ two.size
theorem mk_of {one two bare : ByteArray} {a b c d e : Nat} {L M : El} (h1 : bytesN one = [195, a]) (h2 : bytesN two = [b, 204, c]) (h3 : bytesN bare = [b])
    (d1 : dec1 [195, a] = some (d, 2)) (d2 : dec1 [b, 204, c] = some (b, 1)) (d3 : dec1 [204, c] = some (e, 2)) (d4 : dec1 [b] = some (b, 1))
    (e1 : ∀ k : Int, pointE d ⟨k, false, false, false⟩ = [L, M]) (e2 : ∀ k : Int, pointE b ⟨k, false, false, false⟩ = [L]) (e3 : ∀ k : Int, pointE e ⟨k, false, false, false⟩ = [M])
    (hp : M.p = 0) (hs : 0 < M.s) : Mk one two bare := by
  have p1 : pts [195, a] = some [(d, 2)] := pts1 d1 rfl
  have p2 : pts [b, 204, c] = some [(b, 1), (e, 2)] := pts2 d2 d3 rfl
  have p3 : pts [b] = some [(b, 1)] := pts1 d4 rfl
  have s1 : one.size = 2 := by rw [← bytesN_length, h1]; rfl
  have s2 : two.size = 3 := by rw [← bytesN_length, h2]; rfl
  have s3 : bare.size = 1 := by rw [← bytesN_length, h3]; rfl
  have el1 : ∀ (k : Int) (x : Nat), elems ⟨k, false, false, false⟩ [x] = pointE x ⟨k, false, false, false⟩ := fun k x => by
    rw [elems_point (fun h => absurd h.1 (by simp)), elems_nil, List.append_nil]
  refine ⟨⟨L, M, hp, hs, fun k => ⟨?_, ?_, ?_⟩⟩, by rw [h1, p1]; rfl, by rw [h2, p2]; rfl, by rw [h3, p3]; rfl, by omega, by omega, by omega, by omega⟩
  · unfold elS ptL
    rw [h1, p1]
    show elems _ [d] = _
    rw [el1, e1]
  · unfold elS ptL
    rw [h2, p2]
    show elems _ ([b] ++ [e]) = _
    rw [elems_app rfl, el1, el1, e2, e3]
    rfl
  · unfold elS ptL
    rw [h3, p3]
    show elems _ [b] = _
    rw [el1, e2]
def onesL : List ByteArray := [⟨#[195, 128]⟩, ⟨#[195, 169]⟩, ⟨#[195, 143]⟩, ⟨#[195, 177]⟩, ⟨#[195, 182]⟩, ⟨#[195, 191]⟩, ⟨#[195, 135]⟩, ⟨#[195, 152]⟩]
def twosL : List ByteArray := [⟨#[65, 204, 128]⟩, ⟨#[101, 204, 129]⟩, ⟨#[73, 204, 136]⟩, ⟨#[110, 204, 131]⟩, ⟨#[111, 204, 136]⟩, ⟨#[121, 204, 136]⟩, ⟨#[67, 204, 167]⟩, ⟨#[79, 204, 184]⟩]
theorem bare_bytes {two : ByteArray} {b c d : Nat} (h : bytesN two = [b, c, d]) : bytesN (two.extract 0 1) = [b] := by
  rw [bytesN_extract, h]; rfl
theorem mk_all (q : Nat) (hq : q < 8) : ∃ one two : ByteArray, onesL[q]? = some one ∧ twosL[q]? = some two ∧ Mk one two (two.extract 0 1) := by
  have h8 : q = 0 ∨ q = 1 ∨ q = 2 ∨ q = 3 ∨ q = 4 ∨ q = 5 ∨ q = 6 ∨ q = 7 := by omega
  rcases h8 with rfl | rfl | rfl | rfl | rfl | rfl | rfl | rfl
  · exact ⟨_, _, rfl, rfl, mk_of (a := 128) (b := 65) (c := 128) (d := 192) (e := 768) (L := letterE 65 false) (M := markE 768) rfl rfl (bare_bytes rfl) rfl rfl rfl rfl (fun _ => rfl) (fun _ => rfl) (fun _ => rfl) rfl (by decide)⟩
  · exact ⟨_, _, rfl, rfl, mk_of (a := 169) (b := 101) (c := 129) (d := 233) (e := 769) (L := letterE 101 false) (M := markE 769) rfl rfl (bare_bytes rfl) rfl rfl rfl rfl (fun _ => rfl) (fun _ => rfl) (fun _ => rfl) rfl (by decide)⟩
  · exact ⟨_, _, rfl, rfl, mk_of (a := 143) (b := 73) (c := 136) (d := 207) (e := 776) (L := letterE 73 false) (M := markE 776) rfl rfl (bare_bytes rfl) rfl rfl rfl rfl (fun _ => rfl) (fun _ => rfl) (fun _ => rfl) rfl (by decide)⟩
  · exact ⟨_, _, rfl, rfl, mk_of (a := 177) (b := 110) (c := 131) (d := 241) (e := 771) (L := letterE 110 false) (M := markE 771) rfl rfl (bare_bytes rfl) rfl rfl rfl rfl (fun _ => rfl) (fun _ => rfl) (fun _ => rfl) rfl (by decide)⟩
  · exact ⟨_, _, rfl, rfl, mk_of (a := 182) (b := 111) (c := 136) (d := 246) (e := 776) (L := letterE 111 false) (M := markE 776) rfl rfl (bare_bytes rfl) rfl rfl rfl rfl (fun _ => rfl) (fun _ => rfl) (fun _ => rfl) rfl (by decide)⟩
  · exact ⟨_, _, rfl, rfl, mk_of (a := 191) (b := 121) (c := 136) (d := 255) (e := 776) (L := letterE 121 false) (M := markE 776) rfl rfl (bare_bytes rfl) rfl rfl rfl rfl (fun _ => rfl) (fun _ => rfl) (fun _ => rfl) rfl (by decide)⟩
  · exact ⟨_, _, rfl, rfl, mk_of (a := 135) (b := 67) (c := 167) (d := 199) (e := 807) (L := letterE 67 false) (M := markE 807) rfl rfl (bare_bytes rfl) rfl rfl rfl rfl (fun _ => rfl) (fun _ => rfl) (fun _ => rfl) rfl (by decide)⟩
  · exact ⟨_, _, rfl, rfl, mk_of (a := 152) (b := 79) (c := 184) (d := 216) (e := 824) (L := letterE 79 false) (M := markE 824) rfl rfl (bare_bytes rfl) rfl rfl rfl rfl (fun _ => rfl) (fun _ => rfl) (fun _ => rfl) rfl (by decide)⟩
theorem errC_two {o : Opt} {a b : ByteArray} (ho : 1 ≤ o.strength ∧ o.strength ≤ 4) (ha : a.size ≤ 4096) (hb : b.size ≤ 4096) (va : (pts (bytesN a)).isSome = true) (vb : (pts (bytesN b)).isSome = true) : errC o [a, b] = 0 := by
  have hc : chkO o.strength = 0 := if_neg (by omega)
  unfold errC
  rw [if_pos hc]
  simp only [chkS]
  rw [if_neg (by omega), if_pos va, if_neg (by omega), if_pos vb]
theorem ordL_more : ∀ (u v : List Nat), v ≠ [] → ordL (u ++ v) u = 1
  | [], [], h => absurd rfl h
  | [], _ :: _, _ => rfl
  | a :: u, v, h => by
    rw [List.cons_append]
    unfold ordL
    rw [if_neg (by omega), if_neg (by omega)]
    exact ordL_more u v h
theorem cmpL_same {k : Nat} {a b : List Nat} {x : List El} (hk : k ≤ 3) : cmpL k a b x x = 0 := by
  unfold cmpL
  rw [ordL_refl, ordL_refl, ordL_refl, if_neg (by simp), if_neg (by simp), if_neg (by simp), if_neg (by omega)]
theorem cmpL_one {a b : List Nat} {x y : List El} (h : wts El.p x = wts El.p y) : cmpL 1 a b x y = 0 := by
  unfold cmpL
  rw [h, ordL_refl, if_neg (by simp), if_neg (by omega), if_neg (by omega), if_neg (by omega)]
theorem cmpL_second {a b : List Nat} {x y : List El} (h : wts El.p x = wts El.p y) (h1 : ordL (wts El.s x) (wts El.s y) = 1) : cmpL 2 a b x y = 1 := by
  unfold cmpL
  rw [h, ordL_refl, if_neg (by simp), if_pos ⟨by omega, by rw [h1]; omega⟩, h1]
theorem cmpR_of {k : Nat} {a b : ByteArray} {z : Int} (h : errC ⟨(k : Int), false, false, false⟩ [a, b] = 0) (hc : cmpL k (bytesN a) (bytesN b) (elS ⟨(k : Int), false, false, false⟩ a) (elS ⟨(k : Int), false, false, false⟩ b) = z) : cmpR ⟨(k : Int), false, false, false⟩ a b = z := by
  unfold cmpR
  rw [if_pos h]
  exact hc
theorem cat_ok {a b : ByteArray} (va : (pts (bytesN a)).isSome = true) (vb : (pts (bytesN b)).isSome = true) : (pts (bytesN (a ++ b))).isSome = true := by
  rw [bytesN_append]
  exact (pts_app _ _ _ (Nat.le_refl _) va vb).1
theorem cat_size (a b : ByteArray) : (a ++ b).size = a.size + b.size := by
  rw [← bytesN_length, bytesN_append, List.length_append, bytesN_length, bytesN_length]
theorem wts_mark {L M : El} (hp : M.p = 0) : wts El.p [L, M] = wts El.p [L] := by
  show wts El.p ([L] ++ [M]) = _
  rw [wts_app, show wts El.p [M] = [] from by unfold wts; simp [hp], List.append_nil]
theorem wts_sec {L M : El} (hs : 0 < M.s) : wts El.s [L, M] = wts El.s [L] ++ [M.s] := by
  show wts El.s ([L] ++ [M]) = _
  rw [wts_app, show wts El.s [M] = [M.s] from by unfold wts; simp [hs]]
structure MkLaws (h t one two bare : ByteArray) : Prop where
  same : ∀ k : Nat, 1 ≤ k → k ≤ 3 → errC ⟨(k : Int), false, false, false⟩ [h ++ one ++ t, h ++ two ++ t] = 0 ∧ cmpR ⟨(k : Int), false, false, false⟩ (h ++ one ++ t) (h ++ two ++ t) = 0
  more : errC ⟨2, false, false, false⟩ [h ++ one, h ++ bare] = 0 ∧ cmpR ⟨2, false, false, false⟩ (h ++ one) (h ++ bare) = 1
  less : errC ⟨1, false, false, false⟩ [h ++ one ++ t, h ++ bare ++ t] = 0 ∧ cmpR ⟨1, false, false, false⟩ (h ++ one ++ t) (h ++ bare ++ t) = 0
theorem mk_laws {h t one two bare : ByteArray} (m : Mk one two bare) (zh : h.size ≤ 200) (zt : t.size ≤ 200) (vh : (pts (bytesN h)).isSome = true) (vt : (pts (bytesN t)).isSome = true) : MkLaws h t one two bare := by
  obtain ⟨L, M, hp, hs, hE⟩ := m.els
  have a1 := cat_ok vh m.v1
  have a2 := cat_ok vh m.v2
  have a3 := cat_ok vh m.v3
  have y1 := m.z1
  have y2 := m.z2
  have y3 := m.z3
  have n1 : (h ++ one ++ t).size ≤ 4096 := by rw [cat_size, cat_size]; omega
  have n2 : (h ++ two ++ t).size ≤ 4096 := by rw [cat_size, cat_size]; omega
  have n3 : (h ++ bare ++ t).size ≤ 4096 := by rw [cat_size, cat_size]; omega
  have n4 : (h ++ one).size ≤ 4096 := by rw [cat_size]; omega
  have n5 : (h ++ bare).size ≤ 4096 := by rw [cat_size]; omega
  have q1 : ∀ k : Int, elS ⟨k, false, false, false⟩ (h ++ one) = elS ⟨k, false, false, false⟩ h ++ [L, M] := fun k => by rw [elS_app rfl vh m.v1, (hE k).1]
  have q2 : ∀ k : Int, elS ⟨k, false, false, false⟩ (h ++ two) = elS ⟨k, false, false, false⟩ h ++ [L, M] := fun k => by rw [elS_app rfl vh m.v2, (hE k).2.1]
  have q3 : ∀ k : Int, elS ⟨k, false, false, false⟩ (h ++ bare) = elS ⟨k, false, false, false⟩ h ++ [L] := fun k => by rw [elS_app rfl vh m.v3, (hE k).2.2]
  refine ⟨fun k k1 k3 => ?_, ?_, ?_⟩
  · have he : errC ⟨(k : Int), false, false, false⟩ [h ++ one ++ t, h ++ two ++ t] = 0 := errC_two ⟨by show (1 : Int) ≤ (k : Int); omega, by show (k : Int) ≤ 4; omega⟩ n1 n2 (cat_ok a1 vt) (cat_ok a2 vt)
    refine ⟨he, cmpR_of he ?_⟩
    rw [elS_app rfl a1 vt, elS_app rfl a2 vt, q1, q2]
    exact cmpL_same k3
  · have he : errC ⟨((2 : Nat) : Int), false, false, false⟩ [h ++ one, h ++ bare] = 0 := errC_two ⟨by show (1 : Int) ≤ 2; omega, by show (2 : Int) ≤ 4; omega⟩ n4 n5 a1 a3
    refine ⟨he, cmpR_of (k := 2) he ?_⟩
    rw [q1, q3]
    refine cmpL_second ?_ ?_
    · rw [wts_app, wts_app, wts_mark hp]
    · rw [wts_app, wts_app, wts_sec hs, ← List.append_assoc]
      exact ordL_more _ _ (by simp)
  · have he : errC ⟨((1 : Nat) : Int), false, false, false⟩ [h ++ one ++ t, h ++ bare ++ t] = 0 := errC_two ⟨by show (1 : Int) ≤ 1; omega, by show (1 : Int) ≤ 4; omega⟩ n1 n3 (cat_ok a1 vt) (cat_ok a3 vt)
    refine ⟨he, cmpR_of (k := 1) he ?_⟩
    rw [elS_app rfl a1 vt, elS_app rfl a3 vt, q1, q3]
    refine cmpL_one ?_
    rw [wts_app, wts_app, wts_app, wts_app, wts_mark hp]
end Go.Proofs.YtknnjnginmkblaaDoor
