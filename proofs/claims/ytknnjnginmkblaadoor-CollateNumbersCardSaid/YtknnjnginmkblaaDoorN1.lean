/- Plainly: numbers within texts. -/
import Derived.Test.YtknnjnginmkblaaDoorM1
namespace Go.Proofs.YtknnjnginmkblaaDoor

/-- A number in decimal. -/
def decF : Nat → Nat → List Nat
  | 0, n => [48 + n % 10]
  | f + 1, n => if n < 10 then [48 + n] else decF f (n / 10) ++ [48 + n % 10]
def decN (n : Nat) : List Nat := decF n n
theorem decF_more : ∀ (f g n : Nat), n ≤ f → n ≤ g → decF f n = decF g n
  | 0, 0, n, _, _ => rfl
  | 0, g + 1, n, h, _ => by
    have : n = 0 := by omega
    subst this
    rfl
  | f + 1, 0, n, _, h => by
    have : n = 0 := by omega
    subst this
    rfl
  | f + 1, g + 1, n, h1, h2 => by
    simp only [decF]
    by_cases h : n < 10
    · rw [if_pos h, if_pos h]
    · rw [if_neg h, if_neg h, decF_more f g (n / 10) (by omega) (by omega)]
theorem decN_small {n : Nat} (h : n < 10) : decN n = [48 + n] := by
  unfold decN
  cases n with
  | zero => rfl
  | succ k => simp only [decF]; rw [if_pos h]
theorem decN_big {n : Nat} (h : 10 ≤ n) : decN n = decN (n / 10) ++ [48 + n % 10] := by
  unfold decN
  obtain ⟨k, rfl⟩ : ∃ k, n = k + 1 := ⟨n - 1, by omega⟩
  show decF (k + 1) (k + 1) = _
  rw [show decF (k + 1) (k + 1) = if k + 1 < 10 then [48 + (k + 1)] else decF k ((k + 1) / 10) ++ [48 + (k + 1) % 10] from rfl, if_neg (by omega)]
  rw [decF_more k ((k + 1) / 10) _ (by omega) (Nat.le_refl _)]
/-- What lies ahead of the digits that were laid. -/
def decT (n : Nat) : List Nat := if n = 0 then [] else decN n
theorem decN_step (n : Nat) : decN n = decT (n / 10) ++ [48 + n % 10] := by
  unfold decT
  by_cases h : n < 10
  · rw [if_pos (by omega), decN_small h, Nat.mod_eq_of_lt h]; rfl
  · rw [if_neg (by omega), decN_big (by omega)]
theorem decT_step {n : Nat} (h : 0 < n) : decT n = decT (n / 10) ++ [48 + n % 10] := by
  rw [← decN_step]
  unfold decT
  rw [if_neg (by omega)]
theorem decN_ne (n : Nat) : decN n ≠ [] := by rw [decN_step]; simp
theorem decN_dig : ∀ (f n : Nat), n ≤ f → ∀ c ∈ decN n, digB c = true
  | f, n, hf, c, hc => by
    by_cases h : n < 10
    · rw [decN_small h, List.mem_singleton] at hc
      unfold digB
      simp; omega
    · rw [decN_big (by omega)] at hc
      rcases List.mem_append.1 hc with hc | hc
      · match f with
        | 0 => omega
        | f + 1 => exact decN_dig f (n / 10) (by omega) c hc
      · rw [List.mem_singleton] at hc
        unfold digB
        simp; omega
theorem decN_len : ∀ (k n : Nat), n < 10 ^ (k + 1) → (decN n).length ≤ k + 1
  | 0, n, h => by rw [decN_small (by simpa using h)]; simp
  | k + 1, n, h => by
    by_cases h1 : n < 10
    · rw [decN_small h1]; simp
    · rw [decN_big (by omega), List.length_append, List.length_singleton]
      have : n / 10 < 10 ^ (k + 1) := by
        rw [Nat.pow_succ] at h
        omega
      have := decN_len k (n / 10) this
      omega
theorem decN_head : ∀ (f n : Nat), n ≤ f → 0 < n → ∃ c r, decN n = c :: r ∧ c ≠ 48
  | f, n, hf, h0 => by
    by_cases h : n < 10
    · exact ⟨48 + n, [], decN_small h, by omega⟩
    · match f with
      | 0 => omega
      | f + 1 =>
        obtain ⟨c, r, e, hc⟩ := decN_head f (n / 10) (by omega) (by omega)
        exact ⟨c, r ++ [48 + n % 10], by rw [decN_big (by omega), e]; rfl, hc⟩
theorem trim0_id {c : Nat} {r : List Nat} (h : c ≠ 48 ∨ r = []) : trim0 (c :: r) = c :: r := by
  rcases h with h | h
  · match r with
    | [] => unfold trim0; simp
    | b :: r => rw [trim0.eq_def]; split
                · rename_i e; injection e with e1 _; exact absurd e1 h
                · rfl
  · subst h; unfold trim0; simp
theorem trim0_zero {r : List Nat} (h : r ≠ []) : trim0 (48 :: r) = trim0 r := by
  match r with
  | [] => exact absurd rfl h
  | b :: r => rw [trim0]
theorem trim0_dec (n : Nat) : ∀ (z : Nat), trim0 (List.replicate z 48 ++ decN n) = decN n
  | 0 => by
    rw [List.replicate_zero, List.nil_append]
    by_cases h : n = 0
    · subst h; exact trim0_id (.inr rfl)
    · obtain ⟨c, r, e, hc⟩ := decN_head n n (Nat.le_refl _) (by omega)
      rw [e]; exact trim0_id (.inl hc)
  | z + 1 => by
    rw [List.replicate_succ, List.cons_append, trim0_zero (by simp [decN_ne])]
    exact trim0_dec n z
def sgn (a b : Nat) : Int := if a < b then -1 else if b < a then 1 else 0
theorem ordL_tail : ∀ (u v : List Nat) (d e : Nat), u.length = v.length → (ordL u v ≠ 0 → ordL (u ++ [d]) (v ++ [e]) = ordL u v) ∧ (ordL u v = 0 → ordL (u ++ [d]) (v ++ [e]) = sgn d e)
  | [], [], d, e, _ => ⟨fun h => absurd rfl h, fun _ => rfl⟩
  | [], _ :: _, _, _, h => by simp at h
  | _ :: _, [], _, _, h => by simp at h
  | a :: u, b :: v, d, e, h => by
    obtain ⟨i1, i2⟩ := ordL_tail u v d e (by simpa using h)
    by_cases h1 : a < b
    · have q1 : ordL (a :: u) (b :: v) = -1 := by simp only [ordL]; rw [if_pos h1]
      have q2 : ordL (a :: u ++ [d]) (b :: v ++ [e]) = -1 := by simp only [List.cons_append, ordL]; rw [if_pos h1]
      rw [q1, q2]
      exact ⟨fun _ => rfl, fun h => by cases h⟩
    · by_cases h2 : b < a
      · have q1 : ordL (a :: u) (b :: v) = 1 := by simp only [ordL]; rw [if_neg h1, if_pos h2]
        have q2 : ordL (a :: u ++ [d]) (b :: v ++ [e]) = 1 := by simp only [List.cons_append, ordL]; rw [if_neg h1, if_pos h2]
        rw [q1, q2]
        exact ⟨fun _ => rfl, fun h => by cases h⟩
      · have q1 : ordL (a :: u) (b :: v) = ordL u v := by simp only [ordL]; rw [if_neg h1, if_neg h2]
        have q2 : ordL (a :: u ++ [d]) (b :: v ++ [e]) = ordL (u ++ [d]) (v ++ [e]) := by simp only [List.cons_append, ordL]; rw [if_neg h1, if_neg h2]
        rw [q1, q2]
        exact ⟨i1, i2⟩
theorem dec_cmp : ∀ (f a b : Nat), a ≤ f → ((decN a).length < (decN b).length → a < b) ∧ ((decN b).length < (decN a).length → b < a) ∧ ((decN a).length = (decN b).length → ordL (decN a) (decN b) = sgn a b)
  | f, a, b, hf => by
    by_cases ha : a < 10
    · rw [decN_small ha]
      by_cases hb : b < 10
      · rw [decN_small hb]
        refine ⟨by simp, by simp, fun _ => ?_⟩
        unfold sgn
        simp only [ordL]
        by_cases h1 : a < b
        · rw [if_pos h1, if_pos (by omega)]
        · rw [if_neg h1, if_neg (by omega)]
          by_cases h2 : b < a
          · rw [if_pos h2, if_pos (by omega)]
          · rw [if_neg h2, if_neg (by omega)]
      · have hl : 2 ≤ (decN b).length := by
          rw [decN_big (by omega), List.length_append, List.length_singleton]
          have := List.length_pos_iff.2 (decN_ne (b / 10))
          omega
        refine ⟨fun _ => by omega, fun h => ?_, fun h => ?_⟩
        · simp only [List.length_singleton] at h; omega
        · simp only [List.length_singleton] at h; omega
    · have hl : 2 ≤ (decN a).length := by
        rw [decN_big (by omega), List.length_append, List.length_singleton]
        have := List.length_pos_iff.2 (decN_ne (a / 10))
        omega
      by_cases hb : b < 10
      · rw [decN_small hb]
        refine ⟨fun h => ?_, fun _ => by omega, fun h => ?_⟩
        · simp only [List.length_singleton] at h; omega
        · simp only [List.length_singleton] at h; omega
      · match f with
        | 0 => omega
        | f + 1 =>
          obtain ⟨i1, i2, i3⟩ := dec_cmp f (a / 10) (b / 10) (by omega)
          rw [decN_big (n := a) (by omega), decN_big (n := b) (by omega)]
          simp only [List.length_append, List.length_singleton]
          refine ⟨fun h => ?_, fun h => ?_, fun h => ?_⟩
          · have := i1 (by omega); omega
          · have := i2 (by omega); omega
          · obtain ⟨t1, t2⟩ := ordL_tail (decN (a / 10)) (decN (b / 10)) (48 + a % 10) (48 + b % 10) (by omega)
            have i4 := i3 (by omega)
            rw [i4] at t1 t2
            unfold sgn at t1 t2 ⊢
            by_cases g1 : a / 10 < b / 10
            · rw [if_pos g1] at t1
              rw [t1 (by omega), if_pos (by omega)]
            · rw [if_neg g1] at t1 t2
              by_cases g2 : b / 10 < a / 10
              · rw [if_pos g2] at t1
                rw [t1 (by omega), if_neg (by omega), if_pos (by omega)]
              · rw [if_neg g2] at t2
                rw [t2 rfl]
                by_cases g3 : a < b
                · rw [if_pos (by omega), if_pos g3]
                · rw [if_neg (by omega), if_neg g3]
                  by_cases g4 : b < a
                  · rw [if_pos (by omega), if_pos g4]
                  · rw [if_neg (by omega), if_neg g4]
theorem ordL_map {f : Nat → Nat} (hf : ∀ a b, a < b → f a < f b) : ∀ (x y : List Nat), ordL (x.map f) (y.map f) = ordL x y
  | [], [] => rfl
  | [], _ :: _ => rfl
  | _ :: _, [] => rfl
  | a :: x, b :: y => by
    simp only [List.map_cons, ordL]
    by_cases h1 : a < b
    · rw [if_pos h1, if_pos (hf a b h1)]
    · by_cases h2 : b < a
      · have := hf b a h2
        rw [if_neg h1, if_pos h2, if_neg (by omega), if_pos this]
      · have : a = b := by omega
        subst this
        rw [if_neg (by omega), if_neg (by omega), if_neg (by omega), if_neg (by omega), ordL_map hf x y]
theorem ordL_front : ∀ (u x y : List Nat), ordL (u ++ x) (u ++ y) = ordL x y
  | [], x, y => rfl
  | a :: u, x, y => by
    simp only [List.cons_append, ordL]
    rw [if_neg (by omega), if_neg (by omega), ordL_front u x y]
/-- The weights of a number. -/
theorem wts_number (n z : Nat) : wts El.p (numberE (List.replicate z 48 ++ decN n)) = (768 + (decN n).length) :: (decN n).map fun c => 512 + c - 48 := by
  unfold numberE
  rw [trim0_dec]
  unfold wts
  rw [List.map_cons, List.map_map]
  rw [List.filter_eq_self.2]
  · rfl
  · intro x hx
    rcases List.mem_cons.1 hx with rfl | hx
    · show decide (0 < 768 + (decN n).length) = true
      rw [decide_eq_true_iff]; omega
    · obtain ⟨c, _, rfl⟩ := List.mem_map.1 hx
      show decide (0 < 512 + c - 48) = true
      simp; omega
theorem number_cmp (a b z y : Nat) : ordL (wts El.p (numberE (List.replicate z 48 ++ decN a))) (wts El.p (numberE (List.replicate y 48 ++ decN b))) = sgn a b := by
  rw [wts_number, wts_number]
  obtain ⟨h1, h2, h3⟩ := dec_cmp a a b (Nat.le_refl _)
  simp only [ordL]
  by_cases l1 : (decN a).length < (decN b).length
  · rw [if_pos (by omega)]
    unfold sgn
    rw [if_pos (h1 l1)]
  · rw [if_neg (by omega)]
    by_cases l2 : (decN b).length < (decN a).length
    · have := h2 l2
      rw [if_pos (by omega)]
      unfold sgn
      rw [if_neg (by omega), if_pos this]
    · rw [if_neg (by omega), ordL_map (fun a b h => by omega)]
      exact h3 (by omega)
theorem tw_all : ∀ (l : List Nat), (∀ c ∈ l, digB c = true) → l.takeWhile digB = l ∧ l.dropWhile digB = []
  | [], _ => ⟨rfl, rfl⟩
  | c :: r, h => by
    obtain ⟨h1, h2⟩ := tw_all r (fun x hx => h x (by simp [hx]))
    rw [List.takeWhile_cons_of_pos (h c (by simp)), List.dropWhile_cons_of_pos (h c (by simp)), h1, h2]
    exact ⟨rfl, rfl⟩
theorem dw_nil : ∀ (l : List Nat), l.dropWhile digB = [] → ∀ c ∈ l, digB c = true
  | [], _, c, h => by simp at h
  | a :: r, h, c, hc => by
    by_cases ha : digB a = true
    · rw [List.dropWhile_cons_of_pos ha] at h
      rcases List.mem_cons.1 hc with rfl | hc
      · exact ha
      · exact dw_nil r h c hc
    · rw [List.dropWhile_cons_of_neg ha] at h; cases h
theorem elems_join {o : Opt} (ho : o.num = true) {D : List Nat} (hD : ∀ c ∈ D, digB c = true) (hne : D ≠ []) : ∀ (n : Nat) (H : List Nat), H.length ≤ n → (∀ x, H.getLast? = some x → digB x = false) → elems o (H ++ D) = elems o H ++ numberE D
  | n, [], _, _ => by
    rw [List.nil_append, elems_nil, List.nil_append]
    match D, hne with
    | d :: r, _ =>
      have hr := (tw_all r (fun c hc => hD c (by simp [hc]))).1
      have hd := (tw_all r (fun c hc => hD c (by simp [hc]))).2
      rw [elems_num ho (hD d (by simp)), hr, hd, elems_nil, List.append_nil]
  | 0, _ :: _, h, _ => by simp at h
  | n + 1, c :: r, h, hl => by
    simp only [List.length_cons] at h
    rw [List.cons_append]
    by_cases hc : digB c = true
    · have hR : r.dropWhile digB ≠ [] := by
        intro e
        have hall := dw_nil r e
        have hg : ∃ x, (c :: r).getLast? = some x := ⟨_, List.getLast?_cons⟩
        obtain ⟨x, hx⟩ := hg
        have hm := List.mem_of_getLast? hx
        have := hl x hx
        rcases List.mem_cons.1 hm with rfl | hm
        · rw [hc] at this; cases this
        · rw [hall x hm] at this; cases this
      have ht : (r ++ D).takeWhile digB = r.takeWhile digB := by
        rw [List.takeWhile_append, if_neg]
        intro e
        have h1 := List.takeWhile_append_dropWhile (p := digB) (l := r)
        have h2 := congrArg List.length h1
        rw [List.length_append] at h2
        exact hR (List.eq_nil_of_length_eq_zero (by omega))
      have hd : (r ++ D).dropWhile digB = r.dropWhile digB ++ D := by
        rw [List.dropWhile_append, if_neg (by simpa using hR)]
      have hdl : (r.dropWhile digB).length ≤ r.length := (List.dropWhile_sublist _).length_le
      rw [elems_num ho hc, elems_num ho hc, ht, hd, List.append_assoc]
      congr 1
      refine elems_join ho hD hne n _ (by omega) (fun x hx => hl x ?_)
      have e : c :: r = (c :: r.takeWhile digB) ++ r.dropWhile digB := by rw [List.cons_append, List.takeWhile_append_dropWhile]
      rw [e, List.getLast?_append, hx]; rfl
    · rw [elems_point (fun hh => hc hh.2), elems_point (fun hh => hc hh.2), List.append_assoc]
      congr 1
      refine elems_join ho hD hne n r (by omega) (fun x hx => hl x ?_)
      rw [List.getLast?_cons, hx]; rfl
theorem last_digit : ∀ (n : Nat) (l : List Nat), l.length ≤ n → (pts l).isSome = true → ∀ x, (ptL l).getLast? = some x → digB x = true → ∃ y, l.getLast? = some y ∧ digB y = true
  | n, [], _, _, x, hx, _ => by rw [ptL_nil] at hx; simp at hx
  | 0, _ :: _, h, _, _, _, _ => by simp at h
  | n + 1, a :: r, h, hv, x, hx, hdx => by
    obtain ⟨p, m, hd⟩ := pts_dec hv (by simp)
    obtain ⟨h1, h2⟩ := pts_some hd hv
    obtain ⟨m1, m2, _⟩ := dec1_size hd
    rw [h2] at hx
    by_cases hr : (a :: r).drop m = []
    · rw [hr, ptL_nil] at hx
      simp only [List.getLast?_singleton, Option.some.injEq] at hx
      subst hx
      have hp := digB_lt hdx
      have hl : lenB a = 1 := by
        by_cases hl : lenB a = 1
        · exact hl
        · have := dec1_big hd hl; omega
      rw [dec1_one hl] at hd
      injection hd with hd
      injection hd with e1 e2
      subst e1 e2
      simp only [List.drop_succ_cons, List.drop_zero] at hr
      subst hr
      exact ⟨a, rfl, hdx⟩
    · have hne : ptL ((a :: r).drop m) ≠ [] := by
        obtain ⟨p', m', hd'⟩ := pts_dec h1 hr
        rw [(pts_some hd' h1).2]; simp
      have hx2 : (ptL ((a :: r).drop m)).getLast? = some x := by
        cases hq : ptL ((a :: r).drop m) with
        | nil => exact absurd hq hne
        | cons u t => rw [hq] at hx; rw [List.getLast?_cons_cons] at hx; exact hx
      obtain ⟨y, hy, hdy⟩ := last_digit n ((a :: r).drop m) (by rw [List.length_drop]; omega) h1 x hx2 hdx
      refine ⟨y, ?_, hdy⟩
      rw [List.getLast?_drop] at hy
      split at hy
      · cases hy
      · exact hy
def optN : Opt := ⟨1, true, false, false⟩
theorem digits_size {t : ByteArray} {n z : Nat} (h : bytesN t = List.replicate z 48 ++ decN n) (hz : z ≤ 9) (hn : n < 9223372036854775808) : t.size ≤ 28 := by
  rw [← bytesN_length, h, List.length_append, List.length_replicate]
  have := decN_len 18 n (Nat.lt_trans hn (by decide))
  omega
theorem digits_all (n z : Nat) : ∀ c ∈ List.replicate z 48 ++ decN n, digB c = true := by
  intro c hc
  rcases List.mem_append.1 hc with hc | hc
  · rw [(List.mem_replicate.1 hc).2]; rfl
  · exact decN_dig n n (Nat.le_refl _) c hc
theorem numbers_cmp {h ta tb : ByteArray} {a b z y : Nat} (hv : (pts (bytesN h)).isSome = true) (hs : h.size ≤ 200) (hl : ∀ x, (bytesN h).getLast? = some x → digB x = false)
    (ha : bytesN ta = List.replicate z 48 ++ decN a) (hb : bytesN tb = List.replicate y 48 ++ decN b) (hz : z ≤ 9) (hy : y ≤ 9) (ha2 : a < 9223372036854775808) (hb2 : b < 9223372036854775808) :
    errC optN [h ++ ta, h ++ tb] = 0 ∧ cmpR optN (h ++ ta) (h ++ tb) = sgn a b := by
  have sa := digits_size ha hz ha2
  have sb := digits_size hb hy hb2
  have va := pts_ascii (bytesN ta) (fun x hx => digB_lt (digits_all a z x (by rw [← ha]; exact hx)))
  have vb := pts_ascii (bytesN tb) (fun x hx => digB_lt (digits_all b y x (by rw [← hb]; exact hx)))
  have he : errC optN [h ++ ta, h ++ tb] = 0 := errC_two ⟨by decide, by decide⟩ (by rw [cat_size]; omega) (by rw [cat_size]; omega) (cat_ok hv va.1) (cat_ok hv vb.1)
  refine ⟨he, ?_⟩
  have hlp : ∀ x, (ptL (bytesN h)).getLast? = some x → digB x = false := by
    intro x hx
    cases hd : digB x with
    | false => rfl
    | true =>
      obtain ⟨u, hu, hdu⟩ := last_digit _ (bytesN h) (Nat.le_refl _) hv x hx hd
      rw [hl u hu] at hdu; cases hdu
  have ea : elS optN (h ++ ta) = elems optN (ptL (bytesN h)) ++ numberE (List.replicate z 48 ++ decN a) := by
    unfold elS
    rw [bytesN_append, (pts_app _ _ _ (Nat.le_refl _) hv va.1).2, va.2, ha]
    exact elems_join rfl (digits_all a z) (by simp [decN_ne]) _ _ (Nat.le_refl _) hlp
  have eb : elS optN (h ++ tb) = elems optN (ptL (bytesN h)) ++ numberE (List.replicate y 48 ++ decN b) := by
    unfold elS
    rw [bytesN_append, (pts_app _ _ _ (Nat.le_refl _) hv vb.1).2, vb.2, hb]
    exact elems_join rfl (digits_all b y) (by simp [decN_ne]) _ _ (Nat.le_refl _) hlp
  unfold cmpR
  rw [if_pos he, ea, eb]
  show cmpL 1 _ _ _ _ = _
  have ho : ordL (wts El.p (elems optN (ptL (bytesN h)) ++ numberE (List.replicate z 48 ++ decN a))) (wts El.p (elems optN (ptL (bytesN h)) ++ numberE (List.replicate y 48 ++ decN b))) = sgn a b := by
    rw [wts_app, wts_app, ordL_front, number_cmp]
  unfold cmpL
  rw [ho]
  by_cases h0 : sgn a b ≠ 0
  · rw [if_pos h0]
  · rw [if_neg h0, if_neg (by omega), if_neg (by omega), if_neg (by omega)]
    simp only [ne_eq, Decidable.not_not] at h0
    exact h0.symm
end Go.Proofs.YtknnjnginmkblaaDoor
