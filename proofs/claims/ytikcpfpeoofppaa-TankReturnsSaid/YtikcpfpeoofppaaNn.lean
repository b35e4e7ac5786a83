/- Texts of this claim, laid together: Nm, Nn. -/
import Derived.Test.YtikcpfpeoofppaaDd
import Derived.Test.YtikcpfpeoofppaaB
import Derived.KernelRfl

/- Plain mathematics: what can be measured in a tank. -/
namespace Go.Proofs.Ytikcpfpeoofppaa

/-- The tanks i and j have x and y, the others nothing. -/
def twoS (t : List Int) (i j : Nat) (x y : Int) : List Int := ((List.replicate t.length (0 : Int)).set i x).set j y
def oneS (t : List Int) (i : Nat) (x : Int) : List Int := (List.replicate t.length (0 : Int)).set i x

theorem rep_getD (n j : Nat) : (List.replicate n (0 : Int)).getD j 0 = 0 := by
  rw [List.getD_eq_getElem?_getD, List.getElem?_replicate]
  split <;> rfl
theorem twoS_getD {t : List Int} {i j : Nat} (hi : i < t.length) (hj : j < t.length) (x y : Int) (k : Nat) : (twoS t i j x y).getD k 0 = if j = k then y else if i = k then x else 0 := by
  unfold twoS
  rw [getD_setI (by simpa using hj), getD_setI (by simpa using hi), rep_getD]
theorem twoS_len (t : List Int) (i j : Nat) (x y : Int) : (twoS t i j x y).length = t.length := by simp [twoS]
theorem list_extD {l m : List Int} (h : l.length = m.length) (hk : ∀ k, k < l.length → l.getD k 0 = m.getD k 0) : l = m := by
  apply List.ext_getElem h
  intro k h1 h2
  have := hk k h1
  rwa [List.getD_eq_getElem?_getD, List.getD_eq_getElem?_getD, List.getElem?_eq_getElem h1, List.getElem?_eq_getElem h2] at this

theorem fill_two {t : List Int} {i j : Nat} (hi : i < t.length) (hj : j < t.length) (x y : Int) : doneL t (twoS t i j x y) (1, 0, (j : Int)) = twoS t i j x (t.getD j 0) := by
  have e : doneL t (twoS t i j x y) (1, 0, (j : Int)) = (twoS t i j x y).set j (t.getD j 0) := by unfold doneL; simp
  rw [e]
  apply list_extD (by simp [twoS])
  intro k _
  rw [getD_setI (by rw [twoS_len]; exact hj), twoS_getD hi hj, twoS_getD hi hj]
  split <;> rfl
theorem empty_two {t : List Int} {i j : Nat} (hi : i < t.length) (hj : j < t.length) (hij : i ≠ j) (x y : Int) : doneL t (twoS t i j x y) (2, 0, (i : Int)) = twoS t i j 0 y := by
  have e : doneL t (twoS t i j x y) (2, 0, (i : Int)) = (twoS t i j x y).set i 0 := by unfold doneL; simp
  rw [e]
  apply list_extD (by simp [twoS])
  intro k _
  rw [getD_setI (by rw [twoS_len]; exact hi), twoS_getD hi hj, twoS_getD hi hj]
  by_cases h1 : i = k
  · subst h1
    rw [if_pos rfl, if_neg (Ne.symm hij), if_pos rfl]
  · rw [if_neg h1]
    simp [h1]
theorem pour_two {t : List Int} {i j : Nat} (hi : i < t.length) (hj : j < t.length) (hij : i ≠ j) (x y : Int) : doneL t (twoS t i j x y) (3, (j : Int), (i : Int)) = twoS t i j (x + min y (t.getD i 0 - x)) (y - min y (t.getD i 0 - x)) := by
  have e : doneL t (twoS t i j x y) (3, (j : Int), (i : Int)) = pour (twoS t i j x y) j i ((twoS t i j x y).getD j 0) ((twoS t i j x y).getD i 0) (min ((twoS t i j x y).getD j 0) (t.getD i 0 - (twoS t i j x y).getD i 0)) := by unfold doneL; simp
  rw [e, twoS_getD hi hj x y j, twoS_getD hi hj x y i, if_pos rfl, if_neg (Ne.symm hij), if_pos rfl]
  unfold pour
  have h1 : ((twoS t i j x y).set j (y - min y (t.getD i 0 - x))).length = t.length := by simp [twoS]
  apply list_extD (by simp [twoS])
  intro k _
  rw [getD_setI (by rw [h1]; exact hi), getD_setI (by rw [twoS_len]; exact hj), twoS_getD hi hj, twoS_getD hi hj]
  by_cases h2 : i = k
  · subst h2
    rw [if_pos rfl, if_neg (Ne.symm hij), if_pos rfl]
  · rw [if_neg h2]
    by_cases h3 : j = k
    · rw [if_pos h3, if_pos h3]
    · simp [h2, h3]
theorem twoS_zero {t : List Int} {i j : Nat} (hi : i < t.length) (hj : j < t.length) (hij : i ≠ j) (x : Int) : twoS t i j x 0 = oneS t i x := by
  apply list_extD (by simp [twoS, oneS])
  intro k _
  rw [twoS_getD hi hj]
  unfold oneS
  rw [getD_setI (by simpa using hi), rep_getD]
  by_cases h1 : j = k
  · subst h1
    rw [if_pos rfl, if_neg hij]
  · rw [if_neg h1]

/-- What is in tank j is poured into tank i, which is emptied whenever it is full. -/
theorem pour_all {t : List Int} {i j c : Nat} (hi : i < t.length) (hj : j < t.length) (hij : i ≠ j) (hc : t.getD i 0 = c) (h0 : 0 < c) : ∀ (m x y : Nat), y ≤ m → x < c →
    ∃ qs : List Deed, (∀ d ∈ qs, IsD t.length d) ∧ qs.length ≤ 1 + 2 * ((x + y) / c) ∧ qs.foldl (doneL t) (twoS t i j x y) = twoS t i j (((x + y) % c : Nat) : Int) 0 := by
  have hdp : IsD t.length (3, (j : Int), (i : Int)) := .inr ⟨rfl, by simp only; omega, by simp only; omega, by simp only; omega, by simp only; omega, by simp only; omega⟩
  have hde : IsD t.length (2, 0, (i : Int)) := .inl ⟨.inr rfl, rfl, by simp only; omega, by simp only; omega⟩
  intro m
  induction m with
  | zero =>
    intro x y hy hx
    obtain rfl : y = 0 := by omega
    refine ⟨[], by simp, by simp, ?_⟩
    rw [Nat.add_zero, Nat.mod_eq_of_lt hx]
    rfl
  | succ m ih =>
    intro x y hy hx
    by_cases hlt : y < c - x
    · refine ⟨[(3, (j : Int), (i : Int))], fun d hd => by simp only [List.mem_singleton] at hd; subst hd; exact hdp, by simp, ?_⟩
      rw [List.foldl_cons, List.foldl_nil, pour_two hi hj hij, hc, Int.min_eq_left (by omega), Nat.mod_eq_of_lt (by omega)]
      congr 1
      omega
    · obtain ⟨qs, h1, h2, h3⟩ := ih 0 (y - (c - x)) (by omega) h0
      refine ⟨(3, (j : Int), (i : Int)) :: (2, 0, (i : Int)) :: qs, fun d hd => ?_, ?_, ?_⟩
      · rcases List.mem_cons.1 hd with rfl | hd
        · exact hdp
        · rcases List.mem_cons.1 hd with rfl | hd
          · exact hde
          · exact h1 d hd
      · have e : (x + y) / c = (0 + (y - (c - x))) / c + 1 := by
          rw [show x + y = (0 + (y - (c - x))) + c by omega, Nat.add_div_right _ h0]
        simp only [List.length_cons]
        omega
      · rw [List.foldl_cons, List.foldl_cons, pour_two hi hj hij, hc, Int.min_eq_right (by omega), empty_two hi hj hij]
        have e1 : ((y : Int) - ((c : Int) - (x : Int))) = ((y - (c - x) : Nat) : Int) := by omega
        rw [e1]
        have h3' : qs.foldl (doneL t) (twoS t i j 0 ((y - (c - x) : Nat) : Int)) = twoS t i j (((0 + (y - (c - x))) % c : Nat) : Int) 0 := h3
        rw [h3', show x + y = (0 + (y - (c - x))) + c by omega, Nat.add_mod_right]

/-- x can be had in tank i alone, by m rounds. -/
def Ach (t : List Int) (i C m x : Nat) : Prop := ∃ qs : List Deed, (∀ d ∈ qs, IsD t.length d) ∧ qs.length ≤ m * C ∧ qs.foldl (doneL t) (List.replicate t.length 0) = oneS t i x
theorem Ach.zero (t : List Int) (i C : Nat) : Ach t i C 0 0 := ⟨[], by simp, by simp, by
  unfold oneS
  rw [List.foldl_nil]
  apply list_extD (by simp)
  intro k hk
  by_cases h : i < t.length
  · rw [getD_setI (by simpa using h), rep_getD]
    split <;> rfl
  · rw [List.set_eq_of_length_le (by simp; omega)]⟩
theorem Ach.more {t : List Int} {i C m x : Nat} (h : Ach t i C m x) : Ach t i C (m + 1) x := by
  obtain ⟨qs, h1, h2, h3⟩ := h
  exact ⟨qs, h1, by rw [Nat.succ_mul]; omega, h3⟩
theorem Ach.add {t : List Int} {i j c m x : Nat} (ht : Tvl t) (hi : i < t.length) (hj : j < t.length) (hij : i ≠ j) (hc : t.getD i 0 = c) (h0 : 0 < c) (hx : x < c) (h : Ach t i (2 + 2 * ((c + 11) / c)) m x) : Ach t i (2 + 2 * ((c + 11) / c)) (m + 1) ((x + (t.getD j 0).toNat) % c) := by
  obtain ⟨qs, h1, h2, h3⟩ := h
  have hb := ht.holds _ (mem_getD hj)
  obtain ⟨ps, k1, k2, k3⟩ := pour_all hi hj hij hc h0 (t.getD j 0).toNat x (t.getD j 0).toNat (Nat.le_refl _) hx
  have hdf : IsD t.length (1, 0, (j : Int)) := .inl ⟨.inl rfl, rfl, by simp only; omega, by simp only; omega⟩
  refine ⟨qs ++ (1, 0, (j : Int)) :: ps, fun d hd => ?_, ?_, ?_⟩
  · rcases List.mem_append.1 hd with hd | hd
    · exact h1 d hd
    · rcases List.mem_cons.1 hd with rfl | hd
      · exact hdf
      · exact k1 d hd
  · have e : (x + (t.getD j 0).toNat) / c ≤ (c + 11) / c := Nat.div_le_div_right (by omega)
    rw [List.length_append, List.length_cons, Nat.succ_mul]
    omega
  · rw [List.foldl_append, h3, List.foldl_cons, ← twoS_zero hi hj hij, fill_two hi hj]
    have e : (t.getD j 0) = (((t.getD j 0).toNat : Nat) : Int) := by omega
    rw [e, k3, twoS_zero hi hj hij]
    simp only [Int.toNat_natCast]

/-- The residues moved on by a. -/
def rotB (c a s : Nat) : Nat := ((s <<< a) ||| (s >>> (c - a))) &&& (2 ^ c - 1)
def stepB (c a1 a2 a3 s : Nat) : Nat := s ||| rotB c a1 s ||| rotB c a2 s ||| rotB c a3 s
def closeB (c a1 a2 a3 : Nat) : Nat → Nat
  | 0 => 1
  | m + 1 => stepB c a1 a2 a3 (closeB c a1 a2 a3 m)

theorem rotB_spec {c a s x : Nat} (ha : a < c) (hs : ∀ y, s.testBit y = true → y < c) (h : (rotB c a s).testBit x = true) : ∃ y, y < c ∧ s.testBit y = true ∧ (y + a) % c = x ∧ x < c := by
  unfold rotB at h
  rw [Nat.testBit_and, Bool.and_eq_true, Nat.testBit_or, Nat.testBit_two_pow_sub_one, Bool.or_eq_true, decide_eq_true_iff] at h
  obtain ⟨h1, hx⟩ := h
  rcases h1 with h1 | h1
  · rw [Nat.testBit_shiftLeft, Bool.and_eq_true, decide_eq_true_iff] at h1
    obtain ⟨h2, h3⟩ := h1
    exact ⟨x - a, by omega, h3, by rw [Nat.sub_add_cancel h2, Nat.mod_eq_of_lt hx], hx⟩
  · rw [Nat.testBit_shiftRight] at h1
    have h2 := hs _ h1
    refine ⟨c - a + x, h2, h1, ?_, hx⟩
    rw [show c - a + x + a = x + c by omega, Nat.add_mod_right, Nat.mod_eq_of_lt hx]

theorem closeB_spec {c a1 a2 a3 : Nat} (h0 : 0 < c) (h1 : a1 < c) (h2 : a2 < c) (h3 : a3 < c) (P : Nat → Nat → Prop) (hz : P 0 0) (hm : ∀ m x, P m x → P (m + 1) x)
    (ha : ∀ m x a, x < c → (a = a1 ∨ a = a2 ∨ a = a3) → P m x → P (m + 1) ((x + a) % c)) : ∀ m x, (closeB c a1 a2 a3 m).testBit x = true → x < c ∧ P m x
  | 0, x, h => by
    rw [closeB, Nat.testBit_one_eq_true_iff_self_eq_zero] at h
    subst h
    exact ⟨h0, hz⟩
  | m + 1, x, h => by
    have ih := closeB_spec h0 h1 h2 h3 P hz hm ha m
    rw [closeB, stepB, Nat.testBit_or, Nat.testBit_or, Nat.testBit_or, Bool.or_eq_true, Bool.or_eq_true, Bool.or_eq_true] at h
    have hs : ∀ y, (closeB c a1 a2 a3 m).testBit y = true → y < c := fun y hy => (ih y hy).1
    rcases h with ((h | h) | h) | h
    · exact ⟨(ih x h).1, hm _ _ (ih x h).2⟩
    · obtain ⟨y, k1, k2, rfl, k4⟩ := rotB_spec h1 hs h
      exact ⟨k4, ha _ _ _ k1 (.inl rfl) (ih y k2).2⟩
    · obtain ⟨y, k1, k2, rfl, k4⟩ := rotB_spec h2 hs h
      exact ⟨k4, ha _ _ _ k1 (.inr (.inl rfl)) (ih y k2).2⟩
    · obtain ⟨y, k1, k2, rfl, k4⟩ := rotB_spec h3 hs h
      exact ⟨k4, ha _ _ _ k1 (.inr (.inr rfl)) (ih y k2).2⟩

/-- All that the greatest common divisor divides comes about, in fewer rounds than c. -/
def checkB : Bool := (List.range 12).all fun c' => (List.range (c' + 1)).all fun a1 => (List.range (c' + 1)).all fun a2 => (List.range (c' + 1)).all fun a3 =>
  (List.range (c' + 1)).all fun n => n % Nat.gcd (c' + 1) (Nat.gcd a1 (Nat.gcd a2 a3)) != 0 || (closeB (c' + 1) a1 a2 a3 c').testBit n
set_option maxRecDepth 100000 in
theorem checkB_true : checkB = true := by kernel_rfl

theorem checkB_spec {c a1 a2 a3 n : Nat} (hc : 1 ≤ c ∧ c ≤ 12) (h1 : a1 < c) (h2 : a2 < c) (h3 : a3 < c) (hn : n < c) (hd : Nat.gcd c (Nat.gcd a1 (Nat.gcd a2 a3)) ∣ n) : (closeB c a1 a2 a3 (c - 1)).testBit n = true := by
  have h := checkB_true
  unfold checkB at h
  simp only [List.all_eq_true, List.mem_range] at h
  have h4 := h (c - 1) (by omega) a1 (by omega) a2 (by omega) a3 (by omega) n (by omega)
  rw [Nat.sub_add_cancel hc.1, Bool.or_eq_true, bne_iff_ne] at h4
  rcases h4 with h4 | h4
  · exact absurd (Nat.mod_eq_zero_of_dvd hd) h4
  · exact h4

end Go.Proofs.Ytikcpfpeoofppaa

/- Plain mathematics: whatever the measure divides can be had, by at most 200 deeds. -/
namespace Go.Proofs.Ytikcpfpeoofppaa

theorem cost_le : ∀ c, c < 13 → (c - 1) * (2 + 2 * ((c + 11) / c)) ≤ 200 := by decide

def resT (t : List Int) (c j : Nat) : Nat := (t.getD j 0).toNat % c

theorem ach_res {t : List Int} {i j c m x : Nat} (ht : Tvl t) (hi : i < t.length) (hij : i ≠ j) (hc : t.getD i 0 = c) (h0 : 0 < c) (hx : x < c) (h : Ach t i (2 + 2 * ((c + 11) / c)) m x) : Ach t i (2 + 2 * ((c + 11) / c)) (m + 1) ((x + resT t c j) % c) := by
  unfold resT
  rw [Nat.add_mod_mod]
  by_cases hj : j < t.length
  · exact Ach.add ht hi hj hij hc h0 hx h
  · rw [List.getD_eq_getElem?_getD, List.getElem?_eq_none (by omega)]
    simp only [Option.getD_none, Int.toNat_zero, Nat.add_zero]
    rw [Nat.mod_eq_of_lt hx]
    exact h.more

theorem can_some {t : List Int} {i j1 j2 j3 n c : Nat} (ht : Tvl t) (hi : i < t.length) (hc : t.getD i 0 = c) (hn : n < c) (hd : gcl t ∣ n) (h1 : i ≠ j1) (h2 : i ≠ j2) (h3 : i ≠ j3) (hall : ∀ j, j < 4 → j = i ∨ j = j1 ∨ j = j2 ∨ j = j3) :
    ∃ qs : List Deed, (∀ d ∈ qs, IsD t.length d) ∧ qs.length ≤ 200 ∧ (qs.foldl (doneL t) (List.replicate t.length 0)).getD i 0 = n := by
  have hb := ht.holds _ (mem_getD hi)
  have h0 : 0 < c := by omega
  have hg : Nat.gcd c (Nat.gcd (resT t c j1) (Nat.gcd (resT t c j2) (resT t c j3))) ∣ n := by
    refine Nat.dvd_trans (gcl_greatest fun x hx => ?_) hd
    obtain ⟨j, hj, rfl⟩ := List.getElem_of_mem hx
    have e : t[j] = t.getD j 0 := by rw [List.getD_eq_getElem?_getD, List.getElem?_eq_getElem hj]; rfl
    rw [e]
    have hgc : Nat.gcd c (Nat.gcd (resT t c j1) (Nat.gcd (resT t c j2) (resT t c j3))) ∣ c := Nat.gcd_dvd_left _ _
    have hg2 := Nat.gcd_dvd_right c (Nat.gcd (resT t c j1) (Nat.gcd (resT t c j2) (resT t c j3)))
    have hg3 := Nat.dvd_trans hg2 (Nat.gcd_dvd_right _ _)
    have h4 := ht.hi
    rcases hall j (by omega) with rfl | rfl | rfl | rfl
    · rw [hc, Int.toNat_natCast]; exact hgc
    · exact (Nat.dvd_mod_iff hgc).1 (Nat.dvd_trans hg2 (Nat.gcd_dvd_left _ _))
    · exact (Nat.dvd_mod_iff hgc).1 (Nat.dvd_trans hg3 (Nat.gcd_dvd_left _ _))
    · exact (Nat.dvd_mod_iff hgc).1 (Nat.dvd_trans hg3 (Nat.gcd_dvd_right _ _))
  have hr : ∀ j, resT t c j < c := fun j => Nat.mod_lt _ h0
  have hb2 := checkB_spec (c := c) (n := n) ⟨h0, by omega⟩ (hr j1) (hr j2) (hr j3) hn hg
  obtain ⟨_, qs, k1, k2, k3⟩ := closeB_spec h0 (hr j1) (hr j2) (hr j3) (Ach t i (2 + 2 * ((c + 11) / c))) (Ach.zero t i _) (fun m x h => h.more)
    (fun m x a hx ha h => by
      rcases ha with rfl | rfl | rfl
      · exact ach_res ht hi h1 hc h0 hx h
      · exact ach_res ht hi h2 hc h0 hx h
      · exact ach_res ht hi h3 hc h0 hx h) (c - 1) n hb2
  refine ⟨qs, k1, Nat.le_trans k2 (cost_le c (by omega)), ?_⟩
  rw [k3]
  unfold oneS
  rw [getD_setI (by simpa using hi), if_pos rfl]

/-- Whatever the measure divides, and the tank holds, can be had. -/
theorem can_have {t : List Int} {i n : Nat} (ht : Tvl t) (hi : i < t.length) (hn : (n : Int) ≤ t.getD i 0) (hd : gcl t ∣ n) :
    ∃ qs : List Deed, (∀ d ∈ qs, IsD t.length d) ∧ qs.length ≤ 200 ∧ (qs.foldl (doneL t) (List.replicate t.length 0)).getD i 0 = n := by
  have hb := ht.holds _ (mem_getD hi)
  have h4 := ht.hi
  obtain ⟨c, hc⟩ := Int.eq_ofNat_of_zero_le (show 0 ≤ t.getD i 0 by omega)
  by_cases hlt : n < c
  · have hi4 : i = 0 ∨ i = 1 ∨ i = 2 ∨ i = 3 := by omega
    rcases hi4 with rfl | rfl | rfl | rfl
    · exact can_some (j1 := 1) (j2 := 2) (j3 := 3) ht hi hc hlt hd (by omega) (by omega) (by omega) (fun j hj => by omega)
    · exact can_some (j1 := 0) (j2 := 2) (j3 := 3) ht hi hc hlt hd (by omega) (by omega) (by omega) (fun j hj => by omega)
    · exact can_some (j1 := 0) (j2 := 1) (j3 := 3) ht hi hc hlt hd (by omega) (by omega) (by omega) (fun j hj => by omega)
    · exact can_some (j1 := 0) (j2 := 1) (j3 := 2) ht hi hc hlt hd (by omega) (by omega) (by omega) (fun j hj => by omega)
  · refine ⟨[(1, 0, (i : Int))], fun d hd => ?_, by simp, ?_⟩
    · simp only [List.mem_singleton] at hd
      subst hd
      exact .inl ⟨.inl rfl, rfl, by simp only; omega, by simp only; omega⟩
    · have e : doneL t (List.replicate t.length 0) (1, 0, (i : Int)) = (List.replicate t.length (0 : Int)).set i (t.getD i 0) := by unfold doneL; simp
      rw [List.foldl_cons, List.foldl_nil, e, getD_setI (by simpa using hi), if_pos rfl]
      omega

end Go.Proofs.Ytikcpfpeoofppaa
