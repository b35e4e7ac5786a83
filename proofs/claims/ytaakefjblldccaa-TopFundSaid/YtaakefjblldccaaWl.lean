/- Plain mathematics: awards in whole numbers share the estate, each within 1 of the rule's. -/
import Derived.Test.YtaakefjblldccaaWw
namespace Go.Proofs.Ytaakefjblldccaa
open Go.RowKit

theorem sumf_set : ∀ (q : List Int) (i : Nat) (x : Int), i < q.length → sumf id (q.set i x) = sumf id q - q.getD i 0 + x
  | y :: q, 0, x, _ => by simp [sumf]; omega
  | y :: q, i + 1, x, h => by
    have ih := sumf_set q i x (by simpa using h)
    rw [List.set_cons_succ, List.getD_cons_succ]
    simp only [sumf]
    rw [ih]
    omega
theorem tot_inc (q : List Int) (i : Nat) (h : i < q.length) : tot (q.set i (q.getD i 0 + 1)) = tot q + 1 := by
  rw [tot_sumf, tot_sumf, sumf_set q i _ h]
  omega
theorem incL_tot : ∀ (L : List Nat) (q : List Int), (∀ i ∈ L, i < q.length) → tot (incL q L) = tot q + L.length
  | [], q, _ => by simp [incL]
  | i :: L, q, h => by
    have ih := incL_tot L (q.set i (q.getD i 0 + 1)) (fun j hj => by rw [List.length_set]; exact h j (by simp [hj]))
    rw [show incL q (i :: L) = incL (q.set i (q.getD i 0 + 1)) L from rfl, ih, tot_inc q i (h i (by simp))]
    simp only [List.length_cons]
    omega
theorem incL_at : ∀ (L : List Nat) (q : List Int) (j : Nat), L.Nodup → j < q.length → (incL q L).getD j 0 = q.getD j 0 + if j ∈ L then 1 else 0
  | [], q, j, _, _ => by simp [incL]
  | i :: L, q, j, hn, hj => by
    obtain ⟨h1, h2⟩ := List.nodup_cons.1 hn
    have ih := incL_at L (q.set i (q.getD i 0 + 1)) j h2 (by rw [List.length_set]; exact hj)
    rw [show incL q (i :: L) = incL (q.set i (q.getD i 0 + 1)) L from rfl, ih]
    by_cases hji : j = i
    · subst hji
      rw [if_neg h1, if_pos (by simp)]
      simp [List.getD_eq_getElem?_getD, hj]
    · have e : (q.set i (q.getD i 0 + 1)).getD j 0 = q.getD j 0 := by simp [List.getD_eq_getElem?_getD, List.getElem?_set, Ne.symm hji]
      rw [e]
      simp [hji]

structure WF (c : List Int) (n : Int) (l : List Rat2) (res : List Int) : Prop where
  len : res.length = c.length
  tot : Go.Proofs.Ytaakefjblldccaa.tot res = n
  near : ∀ i, i < c.length → -(l.getD i (0, 0)).2 < res.getD i 0 * (l.getD i (0, 0)).2 - (l.getD i (0, 0)).1 ∧ res.getD i 0 * (l.getD i (0, 0)).2 - (l.getD i (0, 0)).1 < (l.getD i (0, 0)).2
  bd : ∀ i, i < c.length → 0 ≤ res.getD i 0 ∧ res.getD i 0 ≤ c.getD i 0

theorem whole_facts {c : List Int} {n r : Int} {L : List Nat} (h0 : shareE c n r = 0) (hL : Orde (gL c n r) L) : WF c n (shareL c n r) (incL (qsL (shareL c n r)) (L.take (whN n (shareL c n r)))) := by
  have W := whl_share h0
  have K := (shOk h0).okv
  unfold whN
  generalize gL c n r = G at *
  generalize frQ c n r = Q at *
  generalize shareL c n r = l at *
  have hlo := W.lo
  have hhi := W.hi
  obtain ⟨m, hm⟩ := Int.eq_ofNat_of_zero_le hlo
  have hml : m ≤ L.length := by rw [orde_len hL, W.len]; omega
  have hlc : l.length = c.length := K.1
  rw [show (n - tot (qsL l)).toNat = m by rw [hm]; rfl]
  have hql : (qsL l).length = c.length := by simp [qsL, hlc]
  have hlt : ∀ i ∈ L.take m, i < (qsL l).length := fun i hi => by
    have := orde_lt hL (List.mem_of_mem_take hi)
    rw [W.len] at this
    omega
  have hnd : (L.take m).Nodup := (orde_nodup hL).sublist (List.take_sublist _ _)
  have main : ∀ i, i < c.length → (-(l.getD i (0, 0)).2 < (incL (qsL l) (L.take m)).getD i 0 * (l.getD i (0, 0)).2 - (l.getD i (0, 0)).1 ∧ (incL (qsL l) (L.take m)).getD i 0 * (l.getD i (0, 0)).2 - (l.getD i (0, 0)).1 < (l.getD i (0, 0)).2) ∧ 0 ≤ (incL (qsL l) (L.take m)).getD i 0 ∧ (incL (qsL l) (L.take m)).getD i 0 ≤ c.getD i 0 := fun i hi => by
    rw [incL_at _ _ _ hnd (by rw [hql]; exact hi)]
    have hq : (qsL l).getD i 0 = (l.getD i (0, 0)).1 / (l.getD i (0, 0)).2 := by simp [qsL, List.getD_eq_getElem?_getD, show i < l.length by omega]
    have hf : (frL l).getD i (0, 0) = ((l.getD i (0, 0)).1 % (l.getD i (0, 0)).2, (l.getD i (0, 0)).2) := by simp [frL, List.getD_eq_getElem?_getD, show i < l.length by omega]
    have hv := W.rep.val i (by rw [W.len]; omega)
    rw [hf] at hv
    simp only at hv
    obtain ⟨k1, k2, k3, k4⟩ := K.2 i hi
    have hp : i ∈ L.take m → 0 < G.getD i 0 := fun h => by
      obtain ⟨j, hj, he⟩ := List.getElem_of_mem h
      have hjm : j < m := by rw [List.length_take] at hj; omega
      obtain ⟨hk, hp⟩ := next_pos (k := j) hL W.bd W.sum W.rep.hQ (by rw [hm]; omega)
      rw [List.getElem_take] at he
      rw [he] at hp
      exact hp
    rw [hq]
    generalize l.getD i (0, 0) = x at *
    obtain ⟨p, d⟩ := x
    simp only at hv k1 k2 k3 k4 ⊢
    have e := Int.emod_add_mul_ediv p d
    have r0 := Int.emod_nonneg p (show d ≠ 0 by omega)
    have r1 := Int.emod_lt_of_pos p (show 0 < d by omega)
    have q0 : 0 ≤ p / d := Int.ediv_nonneg k3 (by omega)
    have hc : d * (p / d) = p / d * d := Int.mul_comm _ _
    have hQ := W.rep.hQ
    by_cases h : i ∈ L.take m
    · rw [if_pos h]
      have hg := hp h
      have hr : p % d ≠ 0 := fun hz => by
        rw [hz, Int.zero_mul] at hv
        have : 0 < G.getD i 0 * d := Int.mul_pos hg (by omega)
        omega
      have hm1 : (p / d + 1) * d = p / d * d + d := by rw [Int.add_mul, Int.one_mul]
      have hlt : p / d < c.getD i 0 := by
        have : p / d * d < c.getD i 0 * d := by omega
        exact Int.lt_of_mul_lt_mul_right this (by omega)
      omega
    · rw [if_neg h, Int.add_zero]
      have hle : p / d ≤ c.getD i 0 := by
        have : p / d * d ≤ c.getD i 0 * d := by omega
        exact Int.le_of_mul_le_mul_right this (by omega)
      omega
  refine ⟨by rw [incL_len, hql], ?_, fun i hi => (main i hi).1, fun i hi => (main i hi).2⟩
  rw [incL_tot _ _ hlt, List.length_take, Nat.min_eq_left hml]
  omega

end Go.Proofs.Ytaakefjblldccaa
