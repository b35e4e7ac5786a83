/- Plain mathematics: what Split and More are, by rules. -/
import Derived.Test.YtaakefjblldccaaSl
namespace Go.Proofs.Ytaakefjblldccaa
open Go.RowKit

theorem errs3 {c : List Int} {n r : Int} (hc : Cvl c) (hr : 1 ≤ r ∧ r ≤ 4) : shareE c n r = 0 ∨ shareE c n r = 2 := by
  by_cases h : 0 ≤ n ∧ n ≤ tot c
  · exact .inl (shareE_mk hc h.1 h.2 hr)
  · have hb : betw 0 n (tot c) = false := betw_no h
    have ha : askE c n = 2 := by unfold askE; rw [(cvl_iff c).2 hc, if_pos rfl, hb]; rfl
    right
    unfold shareE
    rw [ha]
    rfl

theorem subR_sign {a b Q Q' F : Int} (hQ : 1 ≤ Q) (hQ' : 1 ≤ Q') :
    1 ≤ (subR (addR (red a Q') (red b Q')) (red F Q)).2 ∧ ((a + b) * Q = F * Q' → (subR (addR (red a Q') (red b Q')) (red F Q)).1 = 0) ∧
    (F * Q' ≤ (a + b) * Q → 0 ≤ (subR (addR (red a Q') (red b Q')) (red F Q)).1) ∧ ((a + b) * Q ≤ F * Q' → (subR (addR (red a Q') (red b Q')) (red F Q)).1 ≤ 0) := by
  have h1 := mul_one_le hQ' hQ'
  have h2 := mul_one_le h1 hQ
  have e : (a * Q' + b * Q') * Q - F * (Q' * Q') = Q' * ((a + b) * Q - F * Q') := by grind
  have up : F * Q' ≤ (a + b) * Q → 0 ≤ (subR (addR (red a Q') (red b Q')) (red F Q)).1 := fun h => by
    rw [addR_red hQ' hQ', subR_red h1 hQ, (red_sign h2).1, e]
    exact Int.mul_nonneg (by omega) (by omega)
  have dn : (a + b) * Q ≤ F * Q' → (subR (addR (red a Q') (red b Q')) (red F Q)).1 ≤ 0 := fun h => by
    rw [addR_red hQ' hQ', subR_red h1 hQ, (red_sign h2).2, e]
    exact Int.mul_nonpos_of_nonneg_of_nonpos (by omega) (by omega)
  refine ⟨?_, fun h => ?_, up, dn⟩
  · rw [addR_red hQ' hQ', subR_red h1 hQ]
    exact red_d h2
  · have := up (by omega)
    have := dn (by omega)
    omega
theorem subR_sign1 {a Q Q' F : Int} (hQ : 1 ≤ Q) (hQ' : 1 ≤ Q') (h : F * Q' ≤ a * Q) : 1 ≤ (subR (red a Q') (red F Q)).2 ∧ 0 ≤ (subR (red a Q') (red F Q)).1 := by
  have h1 := mul_one_le hQ' hQ
  rw [subR_red hQ' hQ]
  exact ⟨red_d h1, (red_sign h1).1.2 (by omega)⟩

theorem share_form (c : List Int) (n r : Int) {k : Nat} (hk : k < c.length) : (shareL c n r).getD k (0, 0) = red (frF c n r (c.getD k 0)) (frQ c n r) := by
  rw [share_frac, getD_map0 hk]

structure SplF (c : List Int) (n r : Int) (j : Nat) (f : Int) : Prop where
  se : splitE c n r j f = 0 ∨ splitE c n r j f = 2 ∨ splitE c n r j f = 5
  me : moreE c n r j = 0 ∨ moreE c n r j = 2 ∨ moreE c n r j = 5
  s0 : splitE c n r j f = 0 → 1 ≤ (splitV c n r j f).2 ∧ (r = 1 → (splitV c n r j f).1 = 0) ∧ (r = 2 → 0 ≤ (splitV c n r j f).1) ∧ (r = 3 → (splitV c n r j f).1 ≤ 0)
  m0 : moreE c n r j = 0 → 1 ≤ (moreV c n r j).2 ∧ 0 ≤ (moreV c n r j).1

theorem two_getD {c : List Int} {k : Nat} (hk : k < c.length) (f : Int) : (two c k f).getD k 0 = f ∧ (two c k f).getD (k + 1) 0 = c.getD k 0 - f := by
  unfold two twoC
  have h : (c.take k).length = k := by rw [List.length_take]; omega
  constructor
  · rw [List.getD_eq_getElem?_getD, List.getElem?_append_right (by omega), h]; simp
  · rw [List.getD_eq_getElem?_getD, List.getElem?_append_right (by omega), h]; simp
theorem inc_eq {c : List Int} {k : Nat} (hk : k < c.length) : incC c k = c.take k ++ (c.getD k 0 + 1) :: c.drop (k + 1) := by
  unfold incC
  rw [List.set_eq_take_append_cons_drop, if_pos hk]
theorem inc_getD {c : List Int} {k : Nat} (hk : k < c.length) : (incC c k).getD k 0 = c.getD k 0 + 1 := by
  unfold incC; simp [List.getD_eq_getElem?_getD, hk]

theorem spl_facts {c : List Int} {n r : Int} {j : Nat} {f : Int} (hc : Cvl c) (hr : 1 ≤ r ∧ r ≤ 4) (hj : j < c.length) (hf : 0 ≤ f ∧ f ≤ c.getD j 0) : SplF c n r j f := by
  have he := errs3 (n := n) hc hr
  have hcm : clmt c (j : Int) = true := (betw_iff _ _ _).2 (by omega)
  have hbf : betw 0 f (c.getD j 0) = true := (betw_iff _ _ _).2 hf
  have hA : ∀ y ∈ c.take j, 0 ≤ y := fun y hy => (hc.holds y (List.mem_of_mem_take hy)).1
  have hB : ∀ y ∈ c.drop (j + 1), 0 ≤ y := fun y hy => (hc.holds y (List.mem_of_mem_drop hy)).1
  have heq := at_eq hj
  refine ⟨?_, ?_, fun h => ?_, fun h => ?_⟩
  · unfold splitE
    rw [Int.toNat_natCast, hcm, hbf]
    rcases he with h | h
    · rw [if_pos h, if_pos rfl, if_pos rfl]; split <;> simp
    · rw [if_neg (by omega), h]; simp
  · unfold moreE
    rw [Int.toNat_natCast, hcm]
    rcases he with h | h
    · rw [if_pos h, if_pos rfl]; split <;> simp
    · rw [if_neg (by omega), h]; simp
  · have h0 : shareE c n r = 0 := by
      rcases he with h' | h'
      · exact h'
      · unfold splitE at h; rw [if_neg (by omega), h'] at h; omega
    have h8 : ¬ c.length = 8 := fun h' => by
      unfold splitE at h
      rw [Int.toNat_natCast, hcm, hbf, if_pos h0, if_pos rfl, if_pos rfl, if_pos h'] at h
      omega
    have M := split_ok h0 hj hf h8
    have hv : splitV c n r j f = subR (addR ((shareL (two c j f) n r).getD j (0, 0)) ((shareL (two c j f) n r).getD (j + 1) (0, 0))) ((shareL c n r).getD j (0, 0)) := by
      unfold splitV; rw [if_pos h, Int.toNat_natCast]
    obtain ⟨g1, g2⟩ := two_getD hj f
    rw [share_form c n r hj, share_form (two c j f) n r (k := j) (by rw [M.len]; omega), share_form (two c j f) n r (k := j + 1) (by rw [M.len]; omega), g1, g2] at hv
    have S := share_split (A := c.take j) (B := c.drop (j + 1)) (y := f) (z := c.getD j 0 - f) (e := n) (r := r) hA hB (by omega) (by omega) M.n0 (by
      rw [show f + (c.getD j 0 - f) = c.getD j 0 by omega, ← heq]; exact M.n1)
    rw [show f + (c.getD j 0 - f) = c.getD j 0 by omega, ← heq] at S
    rw [hv]
    have G := subR_sign (a := frF (two c j f) n r f) (b := frF (two c j f) n r (c.getD j 0 - f)) (F := frF c n r (c.getD j 0)) (frQ_pos c n r) (frQ_pos (two c j f) n r)
    exact ⟨G.1, fun h => G.2.1 (S.1 h), fun h => G.2.2.1 (S.2.1 h), fun h => G.2.2.2 (S.2.2 h)⟩
  · have h0 : shareE c n r = 0 := by
      rcases he with h' | h'
      · exact h'
      · unfold moreE at h; rw [if_neg (by omega), h'] at h; omega
    have hm : ¬ c.getD j 0 = 1000 := fun h' => by
      unfold moreE at h
      rw [Int.toNat_natCast, hcm, if_pos h0, if_pos rfl, if_pos h'] at h
      omega
    have M := more_ok h0 hj hm
    have hv : moreV c n r j = subR ((shareL (incC c j) n r).getD j (0, 0)) ((shareL c n r).getD j (0, 0)) := by
      unfold moreV; rw [if_pos h, Int.toNat_natCast]
    rw [share_form c n r hj, share_form (incC c j) n r (k := j) (by unfold incC; rw [List.length_set]; exact hj), inc_getD hj] at hv
    have G := share_grow (A := c.take j) (B := c.drop (j + 1)) (x := c.getD j 0) (e := n) (r := r) hA hB (hc.holds _ (mem_getD hj)).1 M.n0 (by rw [← heq]; exact M.n1) hr
    rw [← inc_eq hj, ← heq] at G
    rw [hv]
    exact subR_sign1 (frQ_pos _ _ _) (frQ_pos _ _ _) G

end Go.Proofs.Ytaakefjblldccaa
