/- Plain mathematics: awards in whole numbers. -/
import Derived.Test.YtaakefjblldccaaSi
namespace Go.Proofs.Ytaakefjblldccaa
open Go.RowKit

theorem red_quo {x Q : Int} (hQ : 1 ≤ Q) : (red x Q).1 / (red x Q).2 = x / Q := by
  obtain ⟨g, hg, e1, e2, h3, _⟩ := red_spec x Q hQ
  generalize red x Q = a at *
  rw [e1, e2, Int.mul_ediv_mul_of_pos _ _ (by omega)]
theorem red_rem {x Q : Int} (hQ : 1 ≤ Q) : ((red x Q).1 % (red x Q).2) * Q = (x % Q) * (red x Q).2 := by
  obtain ⟨g, hg, e1, e2, h3, _⟩ := red_spec x Q hQ
  generalize red x Q = a at *
  have h : x % Q = g * (a.1 % a.2) := by rw [e1, e2, Int.mul_emod_mul_of_pos _ _ (by omega)]
  rw [h, e2]
  simp only [Int.mul_assoc, Int.mul_left_comm, Int.mul_comm]

theorem sumf_map (g : Int → Int) : ∀ c : List Int, (c.map g).sum = sumf g c
  | [] => rfl
  | x :: c => by rw [List.map_cons, List.sum_cons, sumf_map g c]; rfl
theorem tot_map (g : Int → Int) (c : List Int) : tot (c.map g) = sumf g c := by
  rw [tot_sumf]
  induction c with
  | nil => rfl
  | cons x c ih => simp only [List.map_cons, sumf, id]; rw [ih]
theorem sumf_divmod (f : Int → Int) (Q : Int) : ∀ c : List Int, sumf f c = sumf (fun x => f x / Q) c * Q + sumf (fun x => f x % Q) c
  | [] => by simp [sumf]
  | x :: c => by
    have ih := sumf_divmod f Q c
    have := Int.emod_add_mul_ediv (f x) Q
    simp only [sumf]
    rw [ih, Int.add_mul]
    have h2 : f x / Q * Q = Q * (f x / Q) := Int.mul_comm _ _
    omega

/-- The whole parts, and what is left over. -/
def qsL (l : List Rat2) : List Int := l.map fun x => x.1 / x.2
def frL (l : List Rat2) : List Rat2 := l.map fun x => (x.1 % x.2, x.2)
structure Whl (n : Int) (l : List Rat2) (G : List Int) (Q : Int) : Prop where
  rep : Rep Q (frL l) G
  len : G.length = l.length
  bd : ∀ i, i < G.length → 0 ≤ G.getD i 0 ∧ G.getD i 0 < Q
  sum : G.sum = (n - tot (qsL l)) * Q
  cvl : Cvl (qsL l)
  lo : 0 ≤ n - tot (qsL l)
  hi : n - tot (qsL l) ≤ l.length
  mod : Mod (frL l)
  pos : ∀ i, i < l.length → 0 ≤ (l.getD i (0, 0)).1 ∧ (l.getD i (0, 0)).1 ≤ 10000000 ∧ 1 ≤ (l.getD i (0, 0)).2 ∧ (l.getD i (0, 0)).2 ≤ 10000

theorem sum_nonneg : ∀ (l : List Int), (∀ x ∈ l, 0 ≤ x) → 0 ≤ l.sum
  | [], _ => by simp
  | x :: l, h => by
    have h1 := h x (by simp)
    have h2 := sum_nonneg l (fun y hy => h y (by simp [hy]))
    rw [List.sum_cons]; omega

theorem whl_of {c : List Int} {n : Int} {l : List Rat2} {f : Int → Int} {Q : Int} (hc : Cvl c) (h : Shr c n l f Q) (hn : 0 ≤ n) : Whl n l (c.map fun x => f x % Q) Q := by
  have hQ := h.hQ
  have ho := shr_okv h
  have hm := okv_mod hc ho
  have hl : l.length = c.length := ho.1
  have e1 : qsL l = c.map fun x => f x / Q := by
    unfold qsL
    rw [h.aw, List.map_map]
    apply List.map_congr_left
    intro x _
    exact red_quo hQ
  have hs := sumf_divmod f Q c
  rw [h.sum] at hs
  have hsum : (c.map fun x => f x % Q).sum = (n - tot (qsL l)) * Q := by
    rw [sumf_map, e1, tot_map, Int.sub_mul]
    omega
  have hb : ∀ i, i < (c.map fun x => f x % Q).length → 0 ≤ (c.map fun x => f x % Q).getD i 0 ∧ (c.map fun x => f x % Q).getD i 0 < Q := fun i hi => by
    rw [List.length_map] at hi
    have : (c.map fun x => f x % Q).getD i 0 = f (c.getD i 0) % Q := by simp [List.getD_eq_getElem?_getD, hi]
    rw [this]
    exact ⟨Int.emod_nonneg _ (by omega), Int.emod_lt_of_pos _ (by omega)⟩
  have hall : ∀ x ∈ (c.map fun x => f x % Q), 0 ≤ x ∧ x ≤ Q := fun x hx => by
    obtain ⟨y, _, rfl⟩ := List.mem_map.1 hx
    have h1 := Int.emod_nonneg (f y) (show Q ≠ 0 by omega)
    have h2 := Int.emod_lt_of_pos (f y) (show 0 < Q by omega)
    omega
  have s0 := sum_nonneg _ (fun x hx => (hall x hx).1)
  have s1 := sum_take_le _ (c.map fun x => f x % Q).length (fun x hx => (hall x hx).2) (by omega)
  rw [List.take_length, hsum, List.length_map] at s1
  rw [hsum] at s0
  have k1 : n - tot (qsL l) ≤ (c.length : Int) := Int.le_of_mul_le_mul_right s1 (by omega)
  have k0 : 0 ≤ n - tot (qsL l) := by
    by_cases hneg : n - tot (qsL l) < 0
    · have : (n - tot (qsL l)) * Q ≤ (-1) * Q := Int.mul_le_mul_of_nonneg_right (by omega) (by omega)
      omega
    · omega
  refine ⟨⟨by simp [frL, hl], hQ, fun i hi => ?_, fun i hi => ?_⟩, by simp [hl], hb, hsum, ⟨?_, ?_, ?_⟩, k0, by omega, ?_, fun i hi => ?_⟩
  · rw [List.length_map] at hi
    have : (frL l).getD i (0, 0) = ((l.getD i (0, 0)).1 % (l.getD i (0, 0)).2, (l.getD i (0, 0)).2) := by simp [frL, List.getD_eq_getElem?_getD, show i < l.length by omega]
    rw [this]
    exact (ho.2 i hi).1
  · rw [List.length_map] at hi
    have e2 : (frL l).getD i (0, 0) = ((l.getD i (0, 0)).1 % (l.getD i (0, 0)).2, (l.getD i (0, 0)).2) := by simp [frL, List.getD_eq_getElem?_getD, show i < l.length by omega]
    have e3 : (c.map fun x => f x % Q).getD i 0 = f (c.getD i 0) % Q := by simp [List.getD_eq_getElem?_getD, hi]
    rw [e2, e3, h.aw, getD_map0 hi]
    exact red_rem hQ
  · rw [e1, List.length_map]; exact hc.lo
  · rw [e1, List.length_map]; exact hc.hi
  · rw [e1]
    intro y hy
    obtain ⟨x, hx, rfl⟩ := List.mem_map.1 hy
    have h1 := h.lo x hx
    have h2 := h.hi x hx
    have h3 := hc.holds x hx
    refine ⟨Int.ediv_nonneg h1 (by omega), ?_⟩
    have := Int.ediv_le_ediv (show 0 < Q by omega) h2
    rw [Int.mul_ediv_cancel _ (by omega)] at this
    omega
  · intro y hy
    obtain ⟨x, hx, rfl⟩ := List.mem_map.1 hy
    have h1 := hm x hx
    have h2 := Int.emod_nonneg x.1 (show x.2 ≠ 0 by omega)
    have h3 := Int.emod_lt_of_pos x.1 (show 0 < x.2 by omega)
    exact ⟨by simp only; omega, by simp only; omega, h1.2.2.1, h1.2.2.2⟩
  · obtain ⟨h1, h2, h3, h4⟩ := ho.2 i (by omega)
    have hb := hc.holds _ (mem_getD (show i < c.length by omega))
    have h5 : c.getD i 0 * (l.getD i (0, 0)).2 ≤ 1000 * (l.getD i (0, 0)).2 := Int.mul_le_mul_of_nonneg_right (by omega) (by omega)
    omega

end Go.Proofs.Ytaakefjblldccaa
