/- Plain mathematics: equal awards by paying whoever claims at most an even share. -/
import Derived.Test.YtaakefjblldccaaWat
namespace Go.Proofs.Ytaakefjblldccaa

def cntZ : List Rat2 → Int
  | [] => 0
  | x :: l => (if x.2 = 0 then 1 else 0) + cntZ l
def sumN : List Rat2 → Int
  | [] => 0
  | x :: l => x.1 + sumN l

theorem cntZ_nonneg : ∀ o, 0 ≤ cntZ o
  | [] => by simp [cntZ]
  | x :: l => by have := cntZ_nonneg l; unfold cntZ; split <;> omega
theorem cntZ_le : ∀ o, cntZ o ≤ o.length
  | [] => by simp [cntZ]
  | x :: l => by have := cntZ_le l; unfold cntZ; rw [List.length_cons]; split <;> omega
theorem cntZ_pos : ∀ (o : List Rat2) (k : Nat), k < o.length → (o.getD k (0, 0)).2 = 0 → 1 ≤ cntZ o
  | x :: l, 0, _, h => by
    have := cntZ_nonneg l
    rw [List.getD_cons_zero] at h
    unfold cntZ; rw [if_pos h]; omega
  | x :: l, k + 1, hk, h => by
    have := cntZ_pos l k (by simpa using hk) (by simpa using h)
    unfold cntZ; split <;> omega
theorem sumN_set : ∀ (o : List Rat2) (k : Nat) (y : Rat2), k < o.length → sumN (o.set k y) = sumN o - (o.getD k (0, 0)).1 + y.1
  | x :: l, 0, y, _ => by simp [sumN]; omega
  | x :: l, k + 1, y, h => by
    have := sumN_set l k y (by simpa using h)
    simp only [List.set_cons_succ, sumN, List.getD_cons_succ]; omega
theorem cntZ_set : ∀ (o : List Rat2) (k : Nat) (y : Rat2), k < o.length → (o.getD k (0, 0)).2 = 0 → y.2 ≠ 0 → cntZ (o.set k y) = cntZ o - 1
  | x :: l, 0, y, _, h, hy => by
    rw [List.getD_cons_zero] at h
    simp [cntZ, h, hy]; omega
  | x :: l, k + 1, y, h, h0, hy => by
    have := cntZ_set l k y (by simpa using h) (by simpa using h0) hy
    simp only [List.set_cons_succ, cntZ]; omega
theorem sumN_zero : ∀ n, sumN (List.replicate n ((0, 0) : Rat2)) = 0
  | 0 => rfl
  | n + 1 => by simp only [List.replicate_succ, sumN]; rw [sumN_zero n]; rfl
theorem cntZ_zero : ∀ n : Nat, cntZ (List.replicate n ((0, 0) : Rat2)) = n
  | 0 => rfl
  | n + 1 => by simp only [List.replicate_succ, cntZ]; rw [cntZ_zero n]; simp; omega

theorem getD_set_same {o : List Rat2} {k : Nat} (y : Rat2) (hk : k < o.length) : (o.set k y).getD k (0, 0) = y := by
  simp [List.getD_eq_getElem?_getD, hk]
theorem getD_set_other {o : List Rat2} {k j : Nat} (y : Rat2) (h : k ≠ j) : (o.set k y).getD j (0, 0) = o.getD j (0, 0) := by
  simp [List.getD_eq_getElem?_getD, List.getElem?_set_ne h]

/-- Who is paid, what is left, and for how many. -/
structure RS (c : List Int) (e : Int) (o : List Rat2) (rest left : Int) : Prop where
  len : o.length = c.length
  each : ∀ k, k < c.length → o.getD k (0, 0) = (0, 0) ∨ o.getD k (0, 0) = (c.getD k 0, 1)
  rs : rest = e - sumN o
  lf : left = cntZ o
  le : ∀ k, k < c.length → (o.getD k (0, 0)).2 ≠ 0 → c.getD k 0 * left ≤ rest
  r0 : 0 ≤ rest

theorem RS.start (c : List Int) {e : Int} (he : 0 ≤ e) : RS c e (List.replicate c.length (0, 0)) e c.length where
  len := by simp
  each := fun k hk => .inl (by simp [List.getD_eq_getElem?_getD, hk])
  rs := by rw [sumN_zero]; omega
  lf := (cntZ_zero _).symm
  le := fun k hk h => absurd (by simp [List.getD_eq_getElem?_getD, hk]) h
  r0 := he

theorem pay_le {x y p q : Int} (hq : 1 ≤ q) (h1 : x * q ≤ p) (h2 : y * q ≤ p) : x * (q - 1) ≤ p - y := by
  refine Int.le_of_mul_le_mul_right (a := q) ?_ (by omega)
  have e1 : x * (q - 1) * q = x * q * (q - 1) := Int.mul_right_comm _ _ _
  have e2 : (p - y) * q = p * (q - 1) + (p - y * q) := by rw [Int.sub_mul, Int.mul_sub]; omega
  have e3 : x * q * (q - 1) ≤ p * (q - 1) := Int.mul_le_mul_of_nonneg_right h1 (by omega)
  omega

theorem RS.pay {c : List Int} {e : Int} {o : List Rat2} {rest left : Int} (h : RS c e o rest left) (hc : ∀ x ∈ c, 0 ≤ x) {k : Nat} (hk : k < c.length) (h0 : (o.getD k (0, 0)).2 = 0) (hle : c.getD k 0 * left ≤ rest) :
    RS c e (o.set k (c.getD k 0, 1)) (rest - c.getD k 0) (left - 1) ∧ 1 ≤ left := by
  have hko : k < o.length := by have := h.len; omega
  have hl := cntZ_pos o k hko h0
  rw [← h.lf] at hl
  have hx : 0 ≤ c.getD k 0 := hc _ (by rw [List.getD_eq_getElem?_getD, List.getElem?_eq_getElem hk]; simp)
  have hz : o.getD k (0, 0) = (0, 0) := by
    rcases h.each k hk with h1 | h1
    · exact h1
    · rw [h1] at h0; exact absurd h0 (by simp)
  refine ⟨⟨by rw [List.length_set]; exact h.len, fun j hj => ?_, ?_, ?_, fun j hj hp => ?_, ?_⟩, hl⟩
  · by_cases hjk : k = j
    · subst hjk; exact .inr (getD_set_same _ hko)
    · rw [getD_set_other _ hjk]; exact h.each j hj
  · rw [sumN_set o k _ hko, hz, h.rs]; simp only; omega
  · rw [cntZ_set o k _ hko h0 (by simp), h.lf]
  · by_cases hjk : k = j
    · subst hjk; exact pay_le hl hle hle
    · rw [getD_set_other _ hjk] at hp
      exact pay_le hl (h.le j hj hp) hle
  · have : c.getD k 0 * 1 ≤ c.getD k 0 * left := Int.mul_le_mul_of_nonneg_left hl hx
    omega

/-- Who is unpaid gets p / q. -/
def fillZ (p q : Int) (x : Rat2) : Rat2 := if x.2 = 0 then red p q else x

theorem lev_sum (p q : Int) : ∀ (c : List Int) (o : List Rat2), o.length = c.length →
    (∀ k, k < c.length → o.getD k (0, 0) = (0, 0) ∧ p ≤ c.getD k 0 * q ∨ o.getD k (0, 0) = (c.getD k 0, 1) ∧ c.getD k 0 * q ≤ p) → sumf (cap p q) c = sumN o * q + cntZ o * p
  | [], [], _, _ => by simp [sumf, sumN, cntZ]
  | x :: c, y :: o, hl, h => by
    have ih := lev_sum p q c o (by simpa using hl) (fun k hk => by have := h (k + 1) (by simpa using hk); simpa using this)
    have h0 := h 0 (by simp)
    simp only [List.getD_cons_zero] at h0
    simp only [sumf, sumN, cntZ]
    rw [ih]
    rcases h0 with ⟨rfl, h1⟩ | ⟨rfl, h1⟩
    · simp only [cap, if_true]
      rw [Int.min_eq_right h1, Int.add_mul, Int.add_mul]; omega
    · simp only [cap]
      rw [Int.min_eq_left h1, Int.add_mul, Int.add_mul, if_neg (by omega)]; omega

theorem sumN_paid : ∀ (c : List Int) (o : List Rat2), o.length = c.length → (∀ k, k < c.length → o.getD k (0, 0) = (c.getD k 0, 1)) → o = c.map (fun x => (x, 1)) ∧ sumN o = sumf id c
  | [], [], _, _ => by simp [sumf, sumN]
  | x :: c, y :: o, hl, h => by
    obtain ⟨ih1, ih2⟩ := sumN_paid c o (by simpa using hl) (fun k hk => by have := h (k + 1) (by simpa using hk); simpa using this)
    have h0 := h 0 (by simp)
    simp only [List.getD_cons_zero] at h0
    subst h0
    simp only [sumf, sumN, List.map_cons, id]
    rw [ih2]
    exact ⟨by rw [← ih1], rfl⟩

theorem fill_eq (p q : Int) (hq : 1 ≤ q) : ∀ (c : List Int) (o : List Rat2), o.length = c.length →
    (∀ k, k < c.length → o.getD k (0, 0) = (0, 0) ∧ p ≤ c.getD k 0 * q ∨ o.getD k (0, 0) = (c.getD k 0, 1) ∧ c.getD k 0 * q ≤ p) → o.map (fillZ p q) = levA c p q
  | [], [], _, _ => by simp [levA]
  | x :: c, y :: o, hl, h => by
    have ih := fill_eq p q hq c o (by simpa using hl) (fun k hk => by have := h (k + 1) (by simpa using hk); simpa using this)
    have h0 := h 0 (by simp)
    simp only [List.getD_cons_zero] at h0
    simp only [levA, List.map_cons] at ih ⊢
    rw [ih]
    congr 1
    rcases h0 with ⟨rfl, h1⟩ | ⟨rfl, h1⟩
    · simp only [fillZ, cap, if_true]
      rw [Int.min_eq_right h1]
    · simp only [fillZ, cap]
      rw [Int.min_eq_left h1, red_whole x q hq, if_neg (by omega)]

theorem RS.fin {c : List Int} {e : Int} {o : List Rat2} {rest left : Int} (h : RS c e o rest left) (h0 : c ≠ []) (hc : ∀ x ∈ c, 0 ≤ x ∧ x ≤ 1000) (hs : e ≤ tot c)
    (hn : ∀ k, k < c.length → (o.getD k (0, 0)).2 = 0 → rest < c.getD k 0 * left) : o.map (fillZ rest left) = eqW c e := by
  have hl0 := cntZ_nonneg o
  rw [← h.lf] at hl0
  by_cases hl : 1 ≤ left
  · have key : ∀ k, k < c.length → o.getD k (0, 0) = (0, 0) ∧ rest ≤ c.getD k 0 * left ∨ o.getD k (0, 0) = (c.getD k 0, 1) ∧ c.getD k 0 * left ≤ rest := fun k hk => by
      rcases h.each k hk with h1 | h1
      · have := hn k hk (by rw [h1])
        exact .inl ⟨h1, by omega⟩
      · exact .inr ⟨h1, h.le k hk (by rw [h1]; simp)⟩
    rw [fill_eq rest left hl c o h.len key]
    refine eqW_of h0 hs ⟨hl, ?_⟩
    rw [lev_sum rest left c o h.len key, ← h.lf]
    have : sumN o = e - rest := by have := h.rs; omega
    rw [this, Int.sub_mul, Int.mul_comm rest left]; omega
  · have hl1 : left = 0 := by omega
    have key : ∀ k, k < c.length → o.getD k (0, 0) = (c.getD k 0, 1) := fun k hk => by
      rcases h.each k hk with h1 | h1
      · have := cntZ_pos o k (by have := h.len; omega) (by rw [h1])
        have := h.lf
        omega
      · exact h1
    obtain ⟨e1, e2⟩ := sumN_paid c o h.len key
    rw [← tot_sumf] at e2
    have he : e = tot c := by have := h.rs; have := h.r0; omega
    have hcap : ∀ x ∈ c, cap 1000 1 x = x := fun x hx => by unfold cap; have := (hc x hx).2; omega
    rw [← eqW_of h0 hs (p := 1000) (q := 1) ⟨by omega, by rw [sumf_congr (g := id) (fun x hx => hcap x hx), ← tot_sumf]; omega⟩, e1]
    unfold levA
    rw [List.map_map]
    refine List.map_congr_left fun x hx => ?_
    simp only [Function.comp, fillZ]
    rw [if_neg (by omega), hcap x hx, red_one]

end Go.Proofs.Ytaakefjblldccaa
