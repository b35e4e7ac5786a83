/- Plain mathematics: whatever the measure divides can be had, by at most 200 deeds. -/
import Derived.Test.YtikcpfpeoofppaaNm
namespace Go.Proofs.Ytikcpfpeoofppaa

theorem cost_le : ∀ c, c < 13 → (c - 1) * (2 + 2 * ((c + 11) / c)) ≤ 200 := by decide

def resT (t : List Int) (c j : Nat) : Nat := (t.getD j 0).toNat % c

theorem ach_res {t : List Int} {i j c m x : Nat} (ht : Tvl t) (hi : i < t.length) (hij : i ≠ j) (hc : t.getD i 0 = c) (h0 : 0 < c) (hx : x < c) (h : Ach t i (2 + 2 * ((c + 11) / c)) m x) : Ach t i (2 + 2 * ((c + 11) / c)) (m + 1) ((x + resT t c j) % c) := by
  unfold resT
  rw [Nat.add_mod_mod]
  by_cases hj : j < t.length
  · exact Ach.add ht hi hj hij hc h0 hx h
  · rw [List.getD_eq_getElem?_getD, List.getElem?_eq_none (by omega)]
    simp only [Option.getD_none, Int.toNat_zero, Nat.add_zero]
    rw [Nat.mod_eq_of_lt hx]
    exact h.more

theorem can_some {t : List Int} {i j1 j2 j3 n c : Nat} (ht : Tvl t) (hi : i < t.length) (hc : t.getD i 0 = c) (hn : n < c) (hd : gcl t ∣ n) (h1 : i ≠ j1) (h2 : i ≠ j2) (h3 : i ≠ j3) (hall : ∀ j, j < 4 → j = i ∨ j = j1 ∨ j = j2 ∨ j = j3) :
    ∃ qs : List Deed, (∀ d ∈ qs, IsD t.length d) ∧ qs.length ≤ 200 ∧ (qs.foldl (doneL t) (List.replicate t.length 0)).getD i 0 = n := by
  have hb := ht.holds _ (mem_getD hi)
  have h0 : 0 < c := by omega
  have hg : Nat.gcd c (Nat.gcd (resT t c j1) (Nat.gcd (resT t c j2) (resT t c j3))) ∣ n := by
    refine Nat.dvd_trans (gcl_greatest fun x hx => ?_) hd
    obtain ⟨j, hj, rfl⟩ := List.getElem_of_mem hx
    have e : t[j] = t.getD j 0 := by rw [List.getD_eq_getElem?_getD, List.getElem?_eq_getElem hj]; rfl
    rw [e]
    have hgc : Nat.gcd c (Nat.gcd (resT t c j1) (Nat.gcd (resT t c j2) (resT t c j3))) ∣ c := Nat.gcd_dvd_left _ _
    have hg2 := Nat.gcd_dvd_right c (Nat.gcd (resT t c j1) (Nat.gcd (resT t c j2) (resT t c j3)))
    have hg3 := Nat.dvd_trans hg2 (Nat.gcd_dvd_right _ _)
    have h4 := ht.hi
    rcases hall j (by omega) with rfl | rfl | rfl | rfl
    · rw [hc, Int.toNat_natCast]; exact hgc
    · exact (Nat.dvd_mod_iff hgc).1 (Nat.dvd_trans hg2 (Nat.gcd_dvd_left _ _))
    · exact (Nat.dvd_mod_iff hgc).1 (Nat.dvd_trans hg3 (Nat.gcd_dvd_left _ _))
    · exact (Nat.dvd_mod_iff hgc).1 (Nat.dvd_trans hg3 (Nat.gcd_dvd_right _ _))
  have hr : ∀ j, resT t c j < c := fun j => Nat.mod_lt _ h0
  have hb2 := checkB_spec (c := c) (n := n) ⟨h0, by omega⟩ (hr j1) (hr j2) (hr j3) hn hg
  obtain ⟨_, qs, k1, k2, k3⟩ := closeB_spec h0 (hr j1) (hr j2) (hr j3) (Ach t i (2 + 2 * ((c + 11) / c))) (Ach.zero t i _) (fun m x h => h.more)
    (fun m x a hx ha h => by
      rcases ha with rfl | rfl | rfl
      · exact ach_res ht hi h1 hc h0 hx h
      · exact ach_res ht hi h2 hc h0 hx h
      · exact ach_res ht hi h3 hc h0 hx h) (c - 1) n hb2
  refine ⟨qs, k1, Nat.le_trans k2 (cost_le c (by omega)), ?_⟩
  rw [k3]
  unfold oneS
  rw [getD_setI (by simpa using hi), if_pos rfl]

/-- Whatever the measure divides, and the tank holds, can be had. -/
theorem can_have {t : List Int} {i n : Nat} (ht : Tvl t) (hi : i < t.length) (hn : (n : Int) ≤ t.getD i 0) (hd : gcl t ∣ n) :
    ∃ qs : List Deed, (∀ d ∈ qs, IsD t.length d) ∧ qs.length ≤ 200 ∧ (qs.foldl (doneL t) (List.replicate t.length 0)).getD i 0 = n := by
  have hb := ht.holds _ (mem_getD hi)
  have h4 := ht.hi
  obtain ⟨c, hc⟩ := Int.eq_ofNat_of_zero_le (show 0 ≤ t.getD i 0 by omega)
  by_cases hlt : n < c
  · have hi4 : i = 0 ∨ i = 1 ∨ i = 2 ∨ i = 3 := by omega
    rcases hi4 with rfl | rfl | rfl | rfl
    · exact can_some (j1 := 1) (j2 := 2) (j3 := 3) ht hi hc hlt hd (by omega) (by omega) (by omega) (fun j hj => by omega)
    · exact can_some (j1 := 0) (j2 := 2) (j3 := 3) ht hi hc hlt hd (by omega) (by omega) (by omega) (fun j hj => by omega)
    · exact can_some (j1 := 0) (j2 := 1) (j3 := 3) ht hi hc hlt hd (by omega) (by omega) (by omega) (fun j hj => by omega)
    · exact can_some (j1 := 0) (j2 := 1) (j3 := 2) ht hi hc hlt hd (by omega) (by omega) (by omega) (fun j hj => by omega)
  · refine ⟨[(1, 0, (i : Int))], fun d hd => ?_, by simp, ?_⟩
    · simp only [List.mem_singleton] at hd
      subst hd
      exact .inl ⟨.inl rfl, rfl, by simp only; omega, by simp only; omega⟩
    · have e : doneL t (List.replicate t.length 0) (1, 0, (i : Int)) = (List.replicate t.length (0 : Int)).set i (t.getD i 0) := by unfold doneL; simp
      rw [List.foldl_cons, List.foldl_nil, e, getD_setI (by simpa using hi), if_pos rfl]
      omega

end Go.Proofs.Ytikcpfpeoofppaa
