/- Plainly: the bytewise order of keys is the order level by level. -/
import Derived.Test.YtknnjnginmkblaaDoorPl2
namespace Go.Proofs.YtknnjnginmkblaaDoor

theorem ordL_step (a b : Nat) (x y : List Nat) : ordL (a :: x) (b :: y) = if a < b then -1 else if b < a then 1 else ordL x y := by simp only [ordL]
theorem ordL_app : ∀ (p q s t : List Nat), p.length = q.length → ordL (p ++ s) (q ++ t) = if ordL p q ≠ 0 then ordL p q else ordL s t
  | [], [], s, t, _ => by simp [ordL]
  | [], _ :: _, _, _, h => by simp at h
  | _ :: _, [], _, _, h => by simp at h
  | a :: p, b :: q, s, t, h => by
    have ih := ordL_app p q s t (by simpa using h)
    rw [List.cons_append, List.cons_append]
    by_cases h1 : a < b
    · have e1 : ordL (a :: (p ++ s)) (b :: (q ++ t)) = -1 := by rw [ordL_step, if_pos h1]
      have e2 : ordL (a :: p) (b :: q) = -1 := by rw [ordL_step, if_pos h1]
      rw [e1, e2, if_pos (by decide)]
    · by_cases h2 : b < a
      · have e1 : ordL (a :: (p ++ s)) (b :: (q ++ t)) = 1 := by rw [ordL_step, if_neg h1, if_pos h2]
        have e2 : ordL (a :: p) (b :: q) = 1 := by rw [ordL_step, if_neg h1, if_pos h2]
        rw [e1, e2, if_pos (by decide)]
      · have e1 : ordL (a :: (p ++ s)) (b :: (q ++ t)) = ordL (p ++ s) (q ++ t) := by rw [ordL_step, if_neg h1, if_neg h2]
        have e2 : ordL (a :: p) (b :: q) = ordL p q := by rw [ordL_step, if_neg h1, if_neg h2]
        rw [e1, e2]
        exact ih
def cmpN (a b : Nat) : Int := if a < b then -1 else if b < a then 1 else 0
theorem ordL_cons (a b : Nat) (x y : List Nat) : ordL (a :: x) (b :: y) = if cmpN a b ≠ 0 then cmpN a b else ordL x y := by
  rw [ordL_step]
  by_cases h1 : a < b
  · have e : cmpN a b = -1 := by unfold cmpN; rw [if_pos h1]
    rw [if_pos h1, e, if_pos (by decide)]
  · by_cases h2 : b < a
    · have e : cmpN a b = 1 := by unfold cmpN; rw [if_neg h1, if_pos h2]
      rw [if_neg h1, if_pos h2, e, if_pos (by decide)]
    · have e : cmpN a b = 0 := by unfold cmpN; rw [if_neg h1, if_neg h2]
      rw [if_neg h1, if_neg h2, e, if_neg (by decide)]
def enc3 (w : Nat) : List Nat := [w / 65536 % 256, w / 256 % 256, w % 256]
def enc2 (w : Nat) : List Nat := [w / 256 % 256, w % 256]
def enc1 (w : Nat) : List Nat := [w % 256]
theorem ord1 (a b : Nat) : ordL [a] [b] = cmpN a b := by
  rw [ordL_cons]
  by_cases h : cmpN a b ≠ 0
  · rw [if_pos h]
  · rw [if_neg h]; simp at h; rw [h]; rfl
theorem enc1_ord {a b : Nat} (ha : a < 256) (hb : b < 256) : ordL (enc1 a) (enc1 b) = cmpN a b := by
  unfold enc1
  rw [ord1, Nat.mod_eq_of_lt ha, Nat.mod_eq_of_lt hb]
theorem cmpN_lt {a b : Nat} (h : a < b) : cmpN a b = -1 := by unfold cmpN; rw [if_pos h]
theorem cmpN_gt {a b : Nat} (h : b < a) : cmpN a b = 1 := by unfold cmpN; rw [if_neg (by omega), if_pos h]
theorem cmpN_eq {a b : Nat} (h : a = b) : cmpN a b = 0 := by unfold cmpN; rw [if_neg (by omega), if_neg (by omega)]
theorem cmpN_two {M a b x y u v : Nat} (ha : a = x * M + u) (hb : b = y * M + v) (hu : u < M) (hv : v < M) : cmpN a b = if cmpN x y ≠ 0 then cmpN x y else cmpN u v := by
  rcases Nat.lt_trichotomy x y with h | h | h
  · have hm := Nat.mul_le_mul_right M (show x + 1 ≤ y from h)
    rw [Nat.succ_mul] at hm
    rw [cmpN_lt h, cmpN_lt (show a < b by omega), if_pos (by decide)]
  · subst h
    rw [cmpN_eq rfl, if_neg (by decide)]
    rcases Nat.lt_trichotomy u v with h | h | h
    · rw [cmpN_lt h, cmpN_lt (by omega)]
    · rw [cmpN_eq h, cmpN_eq (by omega)]
    · rw [cmpN_gt h, cmpN_gt (by omega)]
  · have hm := Nat.mul_le_mul_right M (show y + 1 ≤ x from h)
    rw [Nat.succ_mul] at hm
    rw [cmpN_gt h, cmpN_gt (show b < a by omega), if_pos (by decide)]
theorem enc2_ord {a b : Nat} (ha : a < 65536) (hb : b < 65536) : ordL (enc2 a) (enc2 b) = cmpN a b := by
  unfold enc2
  rw [ordL_cons, ord1]
  exact (cmpN_two (M := 256) (a := a) (b := b) (x := a / 256 % 256) (y := b / 256 % 256) (u := a % 256) (v := b % 256) (by omega) (by omega) (by omega) (by omega)).symm
theorem enc3_ord {a b : Nat} (ha : a < 16777216) (hb : b < 16777216) : ordL (enc3 a) (enc3 b) = cmpN a b := by
  unfold enc3
  have h := enc2_ord (a := a % 65536) (b := b % 65536) (by omega) (by omega)
  unfold enc2 at h
  have e1 : a % 65536 / 256 % 256 = a / 256 % 256 := by omega
  have e2 : b % 65536 / 256 % 256 = b / 256 % 256 := by omega
  have e3 : a % 65536 % 256 = a % 256 := by omega
  have e4 : b % 65536 % 256 = b % 256 := by omega
  rw [e1, e2, e3, e4] at h
  rw [ordL_cons, h]
  have key := cmpN_two (M := 65536) (a := a) (b := b) (x := a / 65536 % 256) (y := b / 65536 % 256) (u := a % 65536) (v := b % 65536) (by omega) (by omega) (by omega) (by omega)
  exact key.symm
/-- A level, with the 0 behind it. -/
theorem lev_ord {enc : Nat → List Nat} {n B : Nat} (hn : ∀ w, (enc w).length = n) (ho : ∀ a b, a < B → b < B → ordL (enc a) (enc b) = cmpN a b) (hB : 0 < B) :
    ∀ (x y s t : List Nat), (∀ w ∈ x, 0 < w ∧ w < B) → (∀ w ∈ y, 0 < w ∧ w < B) → ordL ((x ++ [0]).flatMap enc ++ s) ((y ++ [0]).flatMap enc ++ t) = if ordL x y ≠ 0 then ordL x y else ordL s t
  | [], [], s, t, _, _ => by
    simp only [List.nil_append, List.flatMap_cons, List.flatMap_nil, List.append_nil]
    rw [ordL_app _ _ _ _ rfl, ordL_refl, if_neg (by decide), ordL_refl, if_neg (by decide)]
  | [], b :: y, s, t, _, hy => by
    obtain ⟨b0, b1⟩ := hy b (by simp)
    simp only [List.nil_append, List.flatMap_cons, List.flatMap_nil, List.append_nil, List.cons_append, List.append_assoc]
    rw [ordL_app _ _ _ _ (by rw [hn, hn]), ho 0 b hB b1]
    have e : cmpN 0 b = -1 := by unfold cmpN; rw [if_pos b0]
    rw [e]
    simp [ordL]
  | a :: x, [], s, t, hx, _ => by
    obtain ⟨a0, a1⟩ := hx a (by simp)
    simp only [List.nil_append, List.flatMap_cons, List.flatMap_nil, List.append_nil, List.cons_append, List.append_assoc]
    rw [ordL_app _ _ _ _ (by rw [hn, hn]), ho a 0 a1 hB]
    have e : cmpN a 0 = 1 := by unfold cmpN; rw [if_neg (by omega), if_pos a0]
    rw [e]
    simp [ordL]
  | a :: x, b :: y, s, t, hx, hy => by
    have ih := lev_ord hn ho hB x y s t (fun w hw => hx w (by simp [hw])) (fun w hw => hy w (by simp [hw]))
    simp only [List.flatMap_cons, List.cons_append, List.append_assoc]
    rw [ordL_app _ _ _ _ (by rw [hn, hn]), ho a b (hx a (by simp)).2 (hy b (by simp)).2, ih, ordL_cons]
    by_cases h : cmpN a b ≠ 0
    · rw [if_pos h, if_pos h, if_pos h]
    · rw [if_neg h, if_neg h]
/-- The weights' bounds. -/
structure Bd (l : List El) : Prop where
  p : ∀ e ∈ l, e.p < 16777216
  s : ∀ e ∈ l, e.s < 65536
  t : ∀ e ∈ l, e.t < 256
theorem wts_bd {f : El → Nat} {B : Nat} {l : List El} (h : ∀ e ∈ l, f e < B) : ∀ w ∈ wts f l, 0 < w ∧ w < B := fun w hw => by
  unfold wts at hw
  obtain ⟨h1, h2⟩ := List.mem_filter.1 hw
  obtain ⟨e, he, rfl⟩ := List.mem_map.1 h1
  exact ⟨by simpa using h2, h e he⟩
/-- Bytewise order of keys. -/
theorem key_ord {k : Nat} (hk : 1 ≤ k ∧ k ≤ 4) {a b : List Nat} {x y : List El} (hx : Bd x) (hy : Bd y) : ordL (keyL k a x) (keyL k b y) = cmpL k a b x y := by
  have l3 := fun s t => lev_ord (enc := enc3) (n := 3) (B := 16777216) (fun _ => rfl) (fun a b h1 h2 => enc3_ord h1 h2) (by decide) (wts El.p x) (wts El.p y) s t (wts_bd hx.p) (wts_bd hy.p)
  have l2 := fun s t => lev_ord (enc := enc2) (n := 2) (B := 65536) (fun _ => rfl) (fun a b h1 h2 => enc2_ord h1 h2) (by decide) (wts El.s x) (wts El.s y) s t (wts_bd hx.s) (wts_bd hy.s)
  have l1 := fun s t => lev_ord (enc := enc1) (n := 1) (B := 256) (fun _ => rfl) (fun a b h1 h2 => enc1_ord h1 h2) (by decide) (wts El.t x) (wts El.t y) s t (wts_bd hx.t) (wts_bd hy.t)
  unfold keyL cmpL
  rw [if_pos hk.1, if_pos hk.1, List.append_assoc, List.append_assoc, List.append_assoc, List.append_assoc]
  rw [show lev3 x = (wts El.p x ++ [0]).flatMap enc3 from rfl, show lev3 y = (wts El.p y ++ [0]).flatMap enc3 from rfl, l3]
  by_cases h1 : ordL (wts El.p x) (wts El.p y) ≠ 0
  · rw [if_pos h1, if_pos h1]
  rw [if_neg h1, if_neg h1]
  by_cases k2 : 2 ≤ k
  case neg =>
    have k3 : ¬ 3 ≤ k := by omega
    have k4 : ¬ 4 ≤ k := by omega
    simp [k2, k3, k4, ordL]
  rw [if_pos k2, if_pos k2]
  rw [show lev2 x = (wts El.s x ++ [0]).flatMap enc2 from rfl, show lev2 y = (wts El.s y ++ [0]).flatMap enc2 from rfl, l2]
  by_cases h2 : ordL (wts El.s x) (wts El.s y) ≠ 0
  · rw [if_pos h2, if_pos ⟨k2, h2⟩]
  have n2 : ¬ (2 ≤ k ∧ ordL (wts El.s x) (wts El.s y) ≠ 0) := fun h => h2 h.2
  rw [if_neg h2, if_neg n2]
  by_cases k3 : 3 ≤ k
  case neg =>
    have k4 : ¬ 4 ≤ k := by omega
    simp [k3, k4, ordL]
  rw [if_pos k3, if_pos k3]
  rw [show lev1 x = (wts El.t x ++ [0]).flatMap enc1 from rfl, show lev1 y = (wts El.t y ++ [0]).flatMap enc1 from rfl, l1]
  by_cases h3 : ordL (wts El.t x) (wts El.t y) ≠ 0
  · rw [if_pos h3, if_pos ⟨k3, h3⟩]
  have n3 : ¬ (3 ≤ k ∧ ordL (wts El.t x) (wts El.t y) ≠ 0) := fun h => h3 h.2
  rw [if_neg h3, if_neg n3]
  by_cases k4 : 4 ≤ k
  · rw [if_pos k4, if_pos k4, if_pos k4]
  · rw [if_neg k4, if_neg k4, if_neg k4]; rfl
end Go.Proofs.YtknnjnginmkblaaDoor
