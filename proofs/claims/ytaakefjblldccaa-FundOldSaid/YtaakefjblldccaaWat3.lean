/- Plain mathematics: awards by a rule as fractions: monotone in the estate; two sides. -/
import Derived.Test.YtaakefjblldccaaWat2
namespace Go.Proofs.Ytaakefjblldccaa

theorem red_cmp {a p b q : Int} (hp : 1 ≤ p) (hq : 1 ≤ q) : (red a p).1 * (red b q).2 ≤ (red b q).1 * (red a p).2 ↔ a * q ≤ b * p := by
  obtain ⟨g, hg, h1, h2, h3, _⟩ := red_spec a p hp
  obtain ⟨k, hk, k1, k2, k3, _⟩ := red_spec b q hq
  generalize (red a p).1 = n at *
  generalize (red a p).2 = d at *
  generalize (red b q).1 = m at *
  generalize (red b q).2 = e at *
  subst h1 h2 k1 k2
  have e1 : g * n * (k * e) = (g * k) * (n * e) := by rw [Int.mul_assoc, Int.mul_assoc, Int.mul_left_comm n k e]
  have e2 : k * m * (g * d) = (g * k) * (m * d) := by rw [Int.mul_comm g k, Int.mul_assoc, Int.mul_assoc, Int.mul_left_comm m g d]
  rw [e1, e2]
  have hgk : 0 < g * k := Int.mul_pos (by omega) (by omega)
  constructor
  · intro h; exact Int.mul_le_mul_of_nonneg_left h (by omega)
  · intro h; exact Int.le_of_mul_le_mul_left h hgk

/-- Sums of two reduced ones. -/
theorem red_add {a p b q x : Int} (hp : 1 ≤ p) (hq : 1 ≤ q) (h : a * q + b * p = x * p * q) : (red a p).1 * (red b q).2 + (red b q).1 * (red a p).2 = x * (red a p).2 * (red b q).2 := by
  obtain ⟨g, hg, h1, h2, h3, _⟩ := red_spec a p hp
  obtain ⟨k, hk, k1, k2, k3, _⟩ := red_spec b q hq
  generalize (red a p).1 = n at *
  generalize (red a p).2 = d at *
  generalize (red b q).1 = m at *
  generalize (red b q).2 = e at *
  subst h1 h2 k1 k2
  have e1 : g * n * (k * e) = (n * e) * (g * k) := by rw [Int.mul_comm (n * e), Int.mul_assoc, Int.mul_assoc, Int.mul_left_comm n k e]
  have e2 : k * m * (g * d) = (m * d) * (g * k) := by rw [Int.mul_comm (m * d), Int.mul_comm g k, Int.mul_assoc, Int.mul_assoc, Int.mul_left_comm m g d]
  have e3 : x * (g * d) * (k * e) = (x * d * e) * (g * k) := by
    rw [Int.mul_comm (x * d * e), Int.mul_left_comm x g d, Int.mul_assoc g, Int.mul_left_comm (x * d) k e, Int.mul_assoc g k]
  rw [e1, e2, e3, ← Int.add_mul] at h
  have hgk : 0 < g * k := Int.mul_pos (by omega) (by omega)
  exact Int.eq_of_mul_eq_mul_right (by omega) h

theorem red_in {x f Q : Int} (hQ : 1 ≤ Q) (h0 : 0 ≤ f) (h1 : f ≤ x * Q) : 1 ≤ (red f Q).2 ∧ (red f Q).2 ≤ Q ∧ 0 ≤ (red f Q).1 ∧ (red f Q).1 ≤ x * (red f Q).2 := by
  have a := red_pos hQ h0
  have b := red_bd (n := f) (d := Q) (B := f) hQ (by omega) (Int.le_refl _)
  have c := (red_le (n := f) (d := Q) (m := x) (k := 1) hQ).2 (by omega)
  omega

theorem lev_mono {c : List Int} {e e' p q p' q' : Int} (h : IsLev c e p q) (h' : IsLev c e' p' q') (hle : e ≤ e') : ∀ x ∈ c, cap p q x * q' ≤ cap p' q' x * q := by
  have hq := h.hq
  have hq' := h'.hq
  have E1 : ∀ (x p q q' : Int), 1 ≤ q' → cap p q x * q' = min (x * q * q') (p * q') := fun x p q q' hq' => by
    unfold cap
    rcases Int.le_total (x * q) p with h | h
    · rw [Int.min_eq_left h, Int.min_eq_left (Int.mul_le_mul_of_nonneg_right h (by omega))]
    · rw [Int.min_eq_right h, Int.min_eq_right (Int.mul_le_mul_of_nonneg_right h (by omega))]
  rcases Int.le_total (p * q') (p' * q) with hpq | hpq
  · intro x _
    rw [E1 x p q q' hq', E1 x p' q' q hq, Int.mul_right_comm x q' q]
    omega
  · have key : ∀ x ∈ c, cap p' q' x * q ≤ cap p q x * q' := fun x _ => by
      rw [E1 x p q q' hq', E1 x p' q' q hq, Int.mul_right_comm x q' q]
      omega
    have s1 := sumf_le key
    rw [sumf_mul, sumf_mul, h.sum, h'.sum, Int.mul_right_comm e' q' q] at s1
    have s2 : e * q * q' ≤ e' * q * q' := Int.mul_le_mul_of_nonneg_right (Int.mul_le_mul_of_nonneg_right hle (by omega)) (by omega)
    have s3 : sumf (fun x => cap p' q' x * q) c = sumf (fun x => cap p q x * q') c := by
      rw [sumf_mul, sumf_mul, h.sum, h'.sum, Int.mul_right_comm e' q' q]; omega
    exact fun x hx => by have := sumf_eq_of key s3 x hx; omega

/-- The level of the sorted claims. -/
def levP (c : List Int) (e : Int) : Int := (rawLev (c.mergeSort (fun a b => decide (a ≤ b))) e).1
def levQ (c : List Int) (e : Int) : Int := (rawLev (c.mergeSort (fun a b => decide (a ≤ b))) e).2
theorem levQ_pos (c : List Int) (e : Int) : 1 ≤ levQ c e := rawLev_q _ _
theorem lev_is {c : List Int} {e : Int} (h0 : c ≠ []) (hs : e ≤ tot c) : IsLev c e (levP c e) (levQ c e) := eqW_lev e h0 hs
theorem eqW_frac (c : List Int) (e : Int) : eqW c e = c.map fun x => red (cap (levP c e) (levQ c e) x) (levQ c e) := rfl
theorem levP_nonneg {c : List Int} {e : Int} (hc : ∀ x ∈ c, 0 ≤ x) (he : 0 ≤ e) : 0 ≤ levP c e ∧ levQ c e ≤ c.length + 1 := by
  have hp := sort_perm c
  have hb := rawLev_bd (c.mergeSort (fun a b => decide (a ≤ b))) e (fun x hx => hc x (hp.mem_iff.1 hx)) he
  have hl := hp.length_eq
  unfold levP levQ
  omega

/-- Numerators, and the denominator, of awards by a rule. -/
def frF (c : List Int) (e r x : Int) : Int :=
  if r = 1 then x * e else if r = 2 then cap (levP c e) (levQ c e) x else if r = 3 then x * levQ c (tot c - e) - cap (levP c (tot c - e)) (levQ c (tot c - e)) x
  else if 2 * e > tot c then x * (2 * levQ c (2 * (tot c - e))) - cap (levP c (2 * (tot c - e))) (levQ c (2 * (tot c - e))) x else cap (levP c (2 * e)) (levQ c (2 * e)) x
def frQ (c : List Int) (e r : Int) : Int :=
  if r = 1 then max 1 (tot c) else if r = 2 then levQ c e else if r = 3 then levQ c (tot c - e)
  else if 2 * e > tot c then 2 * levQ c (2 * (tot c - e)) else 2 * levQ c (2 * e)

theorem frQ_pos (c : List Int) (e r : Int) : 1 ≤ frQ c e r := by
  have h1 := levQ_pos c e
  have h2 := levQ_pos c (tot c - e)
  have h3 := levQ_pos c (2 * (tot c - e))
  have h4 := levQ_pos c (2 * e)
  unfold frQ
  split
  · omega
  split
  · omega
  split
  · omega
  split <;> omega

theorem share_frac (c : List Int) (e r : Int) : shareL c e r = c.map fun x => red (frF c e r x) (frQ c e r) := by
  have h2 := levQ_pos c (tot c - e)
  have h3 := levQ_pos c (2 * (tot c - e))
  have h4 := levQ_pos c (2 * e)
  unfold shareL frF frQ
  split
  · rfl
  split
  · rfl
  split
  · rw [eqW_frac, less_lev c _ h2]
  split
  · rw [eqW_frac, half_lev c _ h3, less_lev c _ (by omega)]
  · rw [eqW_frac, half_lev c _ h4]

theorem fr_1 (c : List Int) (e : Int) : frF c e 1 = (fun x => x * e) ∧ frQ c e 1 = max 1 (tot c) := ⟨by funext x; rfl, rfl⟩
theorem fr_2 (c : List Int) (e : Int) : frF c e 2 = cap (levP c e) (levQ c e) ∧ frQ c e 2 = levQ c e := ⟨by funext x; rfl, rfl⟩
theorem fr_3 (c : List Int) (e : Int) : frF c e 3 = (fun x => x * levQ c (tot c - e) - cap (levP c (tot c - e)) (levQ c (tot c - e)) x) ∧ frQ c e 3 = levQ c (tot c - e) := ⟨by funext x; rfl, rfl⟩
theorem fr_4a (c : List Int) (e : Int) (h : tot c < 2 * e) : frF c e 4 = (fun x => x * (2 * levQ c (2 * (tot c - e))) - cap (levP c (2 * (tot c - e))) (levQ c (2 * (tot c - e))) x) ∧ frQ c e 4 = 2 * levQ c (2 * (tot c - e)) :=
  ⟨by funext x; unfold frF; rw [if_neg (by omega), if_neg (by omega), if_neg (by omega), if_pos h], by unfold frQ; rw [if_neg (by omega), if_neg (by omega), if_neg (by omega), if_pos h]⟩
theorem fr_4b (c : List Int) (e : Int) (h : ¬ tot c < 2 * e) : frF c e 4 = cap (levP c (2 * e)) (levQ c (2 * e)) ∧ frQ c e 4 = 2 * levQ c (2 * e) :=
  ⟨by funext x; unfold frF; rw [if_neg (by omega), if_neg (by omega), if_neg (by omega), if_neg h], by unfold frQ; rw [if_neg (by omega), if_neg (by omega), if_neg (by omega), if_neg h]⟩

theorem share_shr2 {c : List Int} {e r : Int} (h0 : c ≠ []) (hc : ∀ x ∈ c, 0 ≤ x) (hn : c.length ≤ 8) (ht : tot c ≤ 8000) (he : 0 ≤ e) (hs : e ≤ tot c) (hr : 1 ≤ r ∧ r ≤ 4) : Shr c e (shareL c e r) (frF c e r) (frQ c e r) := by
  have hF := share_frac c e r
  have h4 : r = 1 ∨ r = 2 ∨ r = 3 ∨ r = 4 := by omega
  rcases h4 with rfl | rfl | rfl | rfl
  · obtain ⟨e1, e2⟩ := fr_1 c e
    rw [e1, e2] at hF ⊢
    refine ⟨by omega, by omega, hF, ?_, fun x hx => Int.mul_nonneg (hc x hx) he, fun x hx => ?_, fun x hx y hy hxy => ?_⟩
    · rw [sumf_id_mul, Int.mul_comm e]
      by_cases h : 1 ≤ tot c
      · rw [Int.max_eq_right h]
      · have : e = 0 := by omega
        rw [this]; simp
    · exact Int.mul_le_mul_of_nonneg_left (by omega) (hc x hx)
    · refine ⟨Int.mul_le_mul_of_nonneg_right hxy he, ?_⟩
      rw [← Int.mul_sub, ← Int.mul_sub]
      exact Int.mul_le_mul_of_nonneg_right hxy (by omega)
  · obtain ⟨e1, e2⟩ := fr_2 c e
    rw [e1, e2] at hF ⊢
    have hl := lev_is h0 hs
    obtain ⟨hp, hq9⟩ := levP_nonneg hc he
    have hq := hl.hq
    exact ⟨hq, by omega, hF, hl.sum, fun x hx => (cap_facts hq hp (hc x hx) (Int.le_refl x)).1, fun x hx => (cap_facts hq hp (hc x hx) (Int.le_refl x)).2.1, fun x hx y _ hxy => (cap_facts hq hp (hc x hx) hxy).2.2⟩
  · obtain ⟨e1, e2⟩ := fr_3 c e
    rw [e1, e2] at hF ⊢
    have hl := lev_is (e := tot c - e) h0 (by omega)
    obtain ⟨hp, hq9⟩ := levP_nonneg (e := tot c - e) hc (by omega)
    have hq := hl.hq
    generalize levP c (tot c - e) = p at *
    generalize levQ c (tot c - e) = q at *
    refine ⟨hq, by omega, hF, ?_, fun x hx => ?_, fun x hx => ?_, fun x hx y _ hxy => ?_⟩
    · rw [sumf_sub, sumf_id_mul, hl.sum, Int.sub_mul]; omega
    · have := (cap_facts hq hp (hc x hx) (Int.le_refl x)).2.1; omega
    · have := (cap_facts hq hp (hc x hx) (Int.le_refl x)).1; omega
    · have := (cap_facts hq hp (hc x hx) hxy).2.2
      have h2 : x * q ≤ y * q := Int.mul_le_mul_of_nonneg_right hxy (by omega)
      omega
  · by_cases h2e : tot c < 2 * e
    · obtain ⟨e1, e2⟩ := fr_4a c e h2e
      rw [e1, e2] at hF ⊢
      have hl := lev_is (e := 2 * (tot c - e)) h0 (by omega)
      obtain ⟨hp, hq9⟩ := levP_nonneg (e := 2 * (tot c - e)) hc (by omega)
      have hq := hl.hq
      generalize levP c (2 * (tot c - e)) = p at *
      generalize levQ c (2 * (tot c - e)) = q at *
      refine ⟨by omega, by omega, hF, ?_, fun x hx => ?_, fun x hx => ?_, fun x hx y _ hxy => ?_⟩
      · rw [sumf_sub, sumf_id_mul, hl.sum, Int.mul_left_comm (tot c) 2 q, Int.mul_left_comm e 2 q, Int.mul_assoc, Int.sub_mul]; omega
      · have := (cap_facts hq hp (hc x hx) (Int.le_refl x)).2.1
        have h1 : 0 ≤ x * q := Int.mul_nonneg (hc x hx) (by omega)
        rw [Int.mul_left_comm]; omega
      · have := (cap_facts hq hp (hc x hx) (Int.le_refl x)).1; omega
      · have := (cap_facts hq hp (hc x hx) hxy).2.2
        have h2 : x * q ≤ y * q := Int.mul_le_mul_of_nonneg_right hxy (by omega)
        rw [Int.mul_left_comm x, Int.mul_left_comm y]; omega
    · obtain ⟨e1, e2⟩ := fr_4b c e h2e
      rw [e1, e2] at hF ⊢
      have hl := lev_is (e := 2 * e) h0 (by omega)
      obtain ⟨hp, hq9⟩ := levP_nonneg (e := 2 * e) hc (by omega)
      have hq := hl.hq
      generalize levP c (2 * e) = p at *
      generalize levQ c (2 * e) = q at *
      refine ⟨by omega, by omega, hF, ?_, fun x hx => (cap_facts hq hp (hc x hx) (Int.le_refl x)).1, fun x hx => ?_, fun x hx y _ hxy => ?_⟩
      · rw [hl.sum, Int.mul_left_comm e 2 q, Int.mul_assoc]
      · have := (cap_facts hq hp (hc x hx) (Int.le_refl x)).2.1
        have h1 : 0 ≤ x * q := Int.mul_nonneg (hc x hx) (by omega)
        rw [Int.mul_left_comm]; omega
      · have := (cap_facts hq hp (hc x hx) hxy).2.2
        have h2 : x * q ≤ y * q := Int.mul_le_mul_of_nonneg_right hxy (by omega)
        rw [Int.mul_left_comm x, Int.mul_left_comm y]; omega

/-- A greater estate gives nobody less. -/
theorem share_mono {c : List Int} {e e' r : Int} (h0 : c ≠ []) (hc : ∀ x ∈ c, 0 ≤ x) (he : 0 ≤ e) (hle : e ≤ e') (hs : e' ≤ tot c) (hr : 1 ≤ r ∧ r ≤ 4) : ∀ x ∈ c, frF c e r x * frQ c e' r ≤ frF c e' r x * frQ c e r := by
  have h4 : r = 1 ∨ r = 2 ∨ r = 3 ∨ r = 4 := by omega
  intro x hx
  have hx0 := hc x hx
  rcases h4 with rfl | rfl | rfl | rfl
  · obtain ⟨e1, e2⟩ := fr_1 c e
    obtain ⟨e3, e4⟩ := fr_1 c e'
    rw [e1, e2, e3, e4]
    exact Int.mul_le_mul_of_nonneg_right (Int.mul_le_mul_of_nonneg_left hle hx0) (by omega)
  · obtain ⟨e1, e2⟩ := fr_2 c e
    obtain ⟨e3, e4⟩ := fr_2 c e'
    rw [e1, e2, e3, e4]
    exact lev_mono (lev_is h0 (by omega)) (lev_is h0 hs) hle x hx
  · obtain ⟨e1, e2⟩ := fr_3 c e
    obtain ⟨e3, e4⟩ := fr_3 c e'
    rw [e1, e2, e3, e4]
    have := lev_mono (lev_is (e := tot c - e') h0 (by omega)) (lev_is (e := tot c - e) h0 (by omega)) (by omega) x hx
    rw [Int.sub_mul, Int.sub_mul, Int.mul_right_comm x (levQ c (tot c - e)) (levQ c (tot c - e'))]
    omega
  · have hq1 := levQ_pos c (2 * (tot c - e))
    have hq2 := levQ_pos c (2 * (tot c - e'))
    have hq3 := levQ_pos c (2 * e)
    have hq4 := levQ_pos c (2 * e')
    by_cases h1 : tot c < 2 * e
    · obtain ⟨e1, e2⟩ := fr_4a c e h1
      obtain ⟨e3, e4⟩ := fr_4a c e' (by omega)
      rw [e1, e2, e3, e4]
      have := lev_mono (lev_is (e := 2 * (tot c - e')) h0 (by omega)) (lev_is (e := 2 * (tot c - e)) h0 (by omega)) (by omega) x hx
      generalize levP c (2 * (tot c - e)) = p at *
      generalize levQ c (2 * (tot c - e)) = q at *
      generalize levP c (2 * (tot c - e')) = p' at *
      generalize levQ c (2 * (tot c - e')) = q' at *
      rw [Int.sub_mul, Int.sub_mul, Int.mul_right_comm x (2 * q) (2 * q'), Int.mul_left_comm (cap p q x), Int.mul_left_comm (cap p' q' x)]
      omega
    · obtain ⟨e1, e2⟩ := fr_4b c e h1
      by_cases h2 : tot c < 2 * e'
      · obtain ⟨e3, e4⟩ := fr_4a c e' h2
        rw [e1, e2, e3, e4]
        generalize levP c (2 * e) = p at *
        generalize levQ c (2 * e) = q at *
        generalize levP c (2 * (tot c - e')) = p' at *
        generalize levQ c (2 * (tot c - e')) = q' at *
        have f1 : cap p q x ≤ x * q := by unfold cap; omega
        have f2 : cap p' q' x ≤ x * q' := by unfold cap; omega
        have f3 : cap p q x * q' ≤ x * q * q' := Int.mul_le_mul_of_nonneg_right f1 (by omega)
        have f4 : cap p' q' x * q ≤ x * q' * q := Int.mul_le_mul_of_nonneg_right f2 (by omega)
        rw [Int.sub_mul, Int.mul_left_comm (cap p q x), Int.mul_left_comm (cap p' q' x), Int.mul_left_comm x 2 q', Int.mul_assoc 2, Int.mul_left_comm (x * q') 2 q]
        rw [Int.mul_right_comm] at f4
        rw [Int.mul_right_comm x q' q]
        omega
      · obtain ⟨e3, e4⟩ := fr_4b c e' h2
        rw [e1, e2, e3, e4]
        have := lev_mono (lev_is (e := 2 * e) h0 (by omega)) (lev_is (e := 2 * e') h0 (by omega)) (by omega) x hx
        rw [Int.mul_left_comm (cap (levP c (2 * e)) (levQ c (2 * e)) x), Int.mul_left_comm (cap (levP c (2 * e')) (levQ c (2 * e')) x)]
        omega

theorem sides_3 {c : List Int} (e x : Int) : frF c e 3 x * frQ c (tot c - e) 2 + frF c (tot c - e) 2 x * frQ c e 3 = x * frQ c e 3 * frQ c (tot c - e) 2 := by
  obtain ⟨e1, e2⟩ := fr_3 c e
  obtain ⟨e3, e4⟩ := fr_2 c (tot c - e)
  rw [e1, e2, e3, e4]
  simp only
  rw [Int.sub_mul]; omega
theorem sides_1 {c : List Int} (hc : ∀ x ∈ c, 0 ≤ x) (e : Int) : ∀ x ∈ c, frF c e 1 x * frQ c (tot c - e) 1 + frF c (tot c - e) 1 x * frQ c e 1 = x * frQ c e 1 * frQ c (tot c - e) 1 := by
  intro x hx
  obtain ⟨e1, e2⟩ := fr_1 c e
  obtain ⟨e3, e4⟩ := fr_1 c (tot c - e)
  rw [e1, e2, e3, e4]
  simp only
  rw [← Int.add_mul, ← Int.mul_add, show e + (tot c - e) = tot c by omega]
  by_cases h : 1 ≤ tot c
  · rw [Int.max_eq_right h]
  · have h0 : tot c = 0 := by have := tot_nonneg hc; omega
    have hx0 : x = 0 := by
      have h1 := hc x hx
      rw [tot_sumf] at h0
      have h2 := sumf_eq_of (f := fun _ => 0) (g := id) (l := c) (by simpa using hc) (by rw [sumf_const, h0]; simp) x hx
      simpa using h2.symm
    rw [hx0]; simp
theorem lev_full {c : List Int} {p q : Int} (h : IsLev c (tot c) p q) : ∀ x ∈ c, cap p q x = x * q := by
  refine sumf_eq_of (fun x _ => by unfold cap; omega) ?_
  rw [h.sum, sumf_id_mul]
theorem sides_4 {c : List Int} (h0 : c ≠ []) (e : Int) : ∀ x ∈ c, frF c e 4 x * frQ c (tot c - e) 4 + frF c (tot c - e) 4 x * frQ c e 4 = x * frQ c e 4 * frQ c (tot c - e) 4 := by
  intro x hx
  by_cases h1 : tot c < 2 * e
  · obtain ⟨e1, e2⟩ := fr_4a c e h1
    obtain ⟨e3, e4⟩ := fr_4b c (tot c - e) (by omega)
    rw [e1, e2, e3, e4, Int.sub_mul]; omega
  · obtain ⟨e1, e2⟩ := fr_4b c e h1
    by_cases h2 : tot c < 2 * (tot c - e)
    · obtain ⟨e3, e4⟩ := fr_4a c (tot c - e) h2
      rw [e1, e2, e3, e4, show tot c - (tot c - e) = e by omega, Int.sub_mul]
      omega
    · obtain ⟨e3, e4⟩ := fr_4b c (tot c - e) h2
      have ee : 2 * (tot c - e) = 2 * e := by omega
      rw [e1, e2, e3, e4, ee]
      have hf := lev_full (p := levP c (2 * e)) (q := levQ c (2 * e)) (by have := lev_is (e := 2 * e) h0 (by omega); rwa [show 2 * e = tot c by omega] at this ⊢) x hx
      rw [hf]
      generalize levQ c (2 * e) = q
      rw [Int.mul_left_comm x 2 q, Int.mul_assoc 2, ]
      omega

end Go.Proofs.Ytaakefjblldccaa
