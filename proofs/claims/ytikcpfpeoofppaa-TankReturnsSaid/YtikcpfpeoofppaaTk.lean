/- Texts of this claim, laid together: Tk, Tl, Tn, To, Tp. -/
import Derived.KernelRfl
import Derived.Test.YtikcpfpeoofppaaSr

/- Plain mathematics: where deeds lead from some levels to others, at most 200 do (TankReturns): levels as functions. -/
namespace Go.Proofs.Ytikcpfpeoofppaa.far

abbrev St := Nat → Nat
theorem bq {a b : Nat} : Nat.beq a b = true ↔ a = b := ⟨Nat.eq_of_beq_eq_true, fun h => by subst h; induction a with | zero => rfl | succ n ih => exact ih⟩
theorem bq_no {a b : Nat} : Nat.beq a b = false ↔ a ≠ b := by
  rw [← Bool.not_eq_true, bq]
def upd (X : St) (i v : Nat) : St := fun k => if k = i then v else X k
theorem upd_same (X : St) (i v : Nat) : upd X i v i = v := by simp [upd]
theorem upd_other (X : St) {i k : Nat} (v : Nat) (h : k ≠ i) : upd X i v k = X k := by simp [upd, h]
theorem upd_upd (X : St) (i u v : Nat) : upd (upd X i u) i v = upd X i v := by funext k; unfold upd; split <;> rfl
theorem upd_self (X : St) (i : Nat) : upd X i (X i) = X := by funext k; unfold upd; split <;> simp [*]
theorem upd_to {X : St} {i v : Nat} (h : X i = v) : upd X i v = X := by rw [← h]; exact upd_self X i

/-- One deed. -/
inductive One (n : Nat) (c : St) : St → St → Prop where
  | fill (X : St) (i : Nat) : i < n → One n c X (upd X i (c i))
  | empty (X : St) (i : Nat) : i < n → One n c X (upd X i 0)
  | pour (X : St) (i j : Nat) : i < n → j < n → i ≠ j → One n c X (upd (upd X i (X i - min (X i) (c j - X j))) j (X j + min (X i) (c j - X j)))
/-- At most D deeds. -/
inductive Go (n : Nat) (c : St) : Nat → St → St → Prop where
  | refl (D : Nat) (X : St) : Go n c D X X
  | step {D : Nat} {X Y Z : St} : Go n c D X Y → One n c Y Z → Go n c (D + 1) X Z
theorem Go.mono {n : Nat} {c : St} {D : Nat} {X Y : St} (h : Go n c D X Y) : ∀ {E : Nat}, D ≤ E → Go n c E X Y := by
  induction h with
  | refl D X => exact fun _ => .refl _ _
  | step _ h2 ih =>
    intro E hE
    obtain ⟨e, rfl⟩ : ∃ e, E = e + 1 := ⟨E - 1, by omega⟩
    exact .step (ih (by omega)) h2
theorem Go.trans {n : Nat} {c : St} {D E : Nat} {X Y Z : St} (h : Go n c D X Y) (k : Go n c E Y Z) : Go n c (D + E) X Z := by
  induction k with
  | refl E Y => exact h.mono (by omega)
  | step _ h2 ih => exact .step (ih h) h2
theorem Go.one {n : Nat} {c : St} {X Y : St} (h : One n c X Y) : Go n c 1 X Y := .step (.refl 0 X) h
/-- There and back. -/
def Sym (n : Nat) (c : St) (D : Nat) (X Y : St) : Prop := Go n c D X Y ∧ Go n c D Y X
theorem Sym.refl {n : Nat} {c : St} (D : Nat) (X : St) : Sym n c D X X := ⟨.refl _ _, .refl _ _⟩
theorem Sym.mono {n : Nat} {c : St} {D E : Nat} {X Y : St} (h : Sym n c D X Y) (hE : D ≤ E) : Sym n c E X Y := ⟨h.1.mono hE, h.2.mono hE⟩
theorem Sym.trans {n : Nat} {c : St} {D E : Nat} {X Y Z : St} (h : Sym n c D X Y) (k : Sym n c E Y Z) : Sym n c (D + E) X Z := ⟨h.1.trans k.1, (k.2.trans h.2).mono (by omega)⟩
theorem Sym.symm {n : Nat} {c : St} {D : Nat} {X Y : St} (h : Sym n c D X Y) : Sym n c D Y X := ⟨h.2, h.1⟩

/-! ### Two tanks -/
def fw (a b : Nat) (s : Nat × Nat) : Nat × Nat := bif Nat.beq s.2 b then (s.1, 0) else bif Nat.beq s.1 0 then (a, s.2) else (s.1 - min s.1 (b - s.2), s.2 + min s.1 (b - s.2))
def bw (a b : Nat) (s : Nat × Nat) : Nat × Nat := bif Nat.beq s.1 a then (0, s.2) else bif Nat.beq s.2 0 then (s.1, b) else (s.1 + min s.2 (a - s.1), s.2 - min s.2 (a - s.1))
def hitB (f : Nat × Nat → Nat × Nat) (t : Nat) : Nat → Nat × Nat → Bool
  | 0, s => Nat.beq s.1 t && Nat.beq s.2 0
  | m + 1, s => (Nat.beq s.1 t && Nat.beq s.2 0) || hitB f t m (f s)
def lift (X : St) (i k : Nat) (s : Nat × Nat) : St := upd (upd X i s.1) k s.2
theorem one_fw {n : Nat} {c : St} (X : St) {i k : Nat} (hi : i < n) (hk : k < n) (hik : i ≠ k) (s : Nat × Nat) : One n c (lift X i k s) (lift X i k (fw (c i) (c k) s)) := by
  unfold fw
  by_cases h1 : s.2 = c k
  · rw [show Nat.beq s.2 (c k) = true from bq.2 h1]
    have := One.empty (c := c) (lift X i k s) k hk
    unfold lift at this ⊢
    rw [upd_upd] at this
    exact this
  · rw [show Nat.beq s.2 (c k) = false from bq_no.2 h1]
    by_cases h2 : s.1 = 0
    · rw [show Nat.beq s.1 0 = true from bq.2 h2]
      have := One.fill (c := c) (lift X i k s) i hi
      have e : upd (lift X i k s) i (c i) = lift X i k (c i, s.2) := by
        funext q; unfold lift upd; split <;> simp_all
      rw [e] at this
      exact this
    · rw [show Nat.beq s.1 0 = false from bq_no.2 h2]
      have := One.pour (c := c) (lift X i k s) i k hi hk hik
      have e1 : lift X i k s i = s.1 := by unfold lift; rw [upd_other _ _ hik, upd_same]
      have e2 : lift X i k s k = s.2 := by unfold lift; rw [upd_same]
      rw [e1, e2] at this
      have e : upd (upd (lift X i k s) i (s.1 - min s.1 (c k - s.2))) k (s.2 + min s.1 (c k - s.2)) = lift X i k (s.1 - min s.1 (c k - s.2), s.2 + min s.1 (c k - s.2)) := by
        funext q; unfold lift upd; split <;> simp_all
      rw [e] at this
      exact this
theorem one_bw {n : Nat} {c : St} (X : St) {i k : Nat} (hi : i < n) (hk : k < n) (hik : i ≠ k) (s : Nat × Nat) : One n c (lift X i k s) (lift X i k (bw (c i) (c k) s)) := by
  unfold bw
  by_cases h1 : s.1 = c i
  · rw [show Nat.beq s.1 (c i) = true from bq.2 h1]
    have := One.empty (c := c) (lift X i k s) i hi
    have e : upd (lift X i k s) i 0 = lift X i k (0, s.2) := by
      funext q; unfold lift upd; split <;> simp_all
    rw [e] at this
    exact this
  · rw [show Nat.beq s.1 (c i) = false from bq_no.2 h1]
    by_cases h2 : s.2 = 0
    · rw [show Nat.beq s.2 0 = true from bq.2 h2]
      have := One.fill (c := c) (lift X i k s) k hk
      unfold lift at this ⊢
      rw [upd_upd] at this
      exact this
    · rw [show Nat.beq s.2 0 = false from bq_no.2 h2]
      have := One.pour (c := c) (lift X i k s) k i hk hi (Ne.symm hik)
      have e1 : lift X i k s i = s.1 := by unfold lift; rw [upd_other _ _ hik, upd_same]
      have e2 : lift X i k s k = s.2 := by unfold lift; rw [upd_same]
      rw [e1, e2] at this
      have e : upd (upd (lift X i k s) k (s.2 - min s.2 (c i - s.1))) i (s.1 + min s.2 (c i - s.1)) = lift X i k (s.1 + min s.2 (c i - s.1), s.2 - min s.2 (c i - s.1)) := by
        funext q; unfold lift upd
        by_cases hq : q = i
        · subst hq; simp [hik]
        · by_cases hq2 : q = k
          · subst hq2; simp [hq]
          · simp [hq, hq2]
      rw [e] at this
      exact this
theorem hit_go {n : Nat} {c : St} {X : St} {i k : Nat} {f : Nat × Nat → Nat × Nat} (hf : ∀ s, One n c (lift X i k s) (lift X i k (f s))) {t : Nat} : ∀ (m : Nat) (s : Nat × Nat), hitB f t m s = true → Go n c m (lift X i k s) (lift X i k (t, 0))
  | 0, s, h => by
    simp only [hitB, Bool.and_eq_true, bq] at h
    obtain ⟨a, b⟩ := s
    obtain ⟨rfl, rfl⟩ := h
    exact .refl _ _
  | m + 1, s, h => by
    simp only [hitB, Bool.or_eq_true, Bool.and_eq_true, bq] at h
    rcases h with h | h
    · obtain ⟨a, b⟩ := s
      obtain ⟨rfl, rfl⟩ := h
      exact .refl _ _
    · exact ((Go.one (hf s)).trans (hit_go hf m (f s) h)).mono (by omega)
def pairB : Bool := (List.range 12).all fun a' => (List.range 12).all fun b' => (List.range (a' + 2)).all fun x => (List.range (a' + 2)).all fun t =>
  !(Nat.beq (x % Nat.gcd (a' + 1) (b' + 1)) (t % Nat.gcd (a' + 1) (b' + 1))) || Nat.beq x t || Nat.beq t 0 || Nat.beq t (a' + 1) ||
    hitB (fw (a' + 1) (b' + 1)) t ((a' + 1 + (b' + 1)) / Nat.gcd (a' + 1) (b' + 1)) (x, 0) || hitB (bw (a' + 1) (b' + 1)) t ((a' + 1 + (b' + 1)) / Nat.gcd (a' + 1) (b' + 1)) (x, 0)
set_option maxRecDepth 100000 in
theorem pairB_true : pairB = true := by kernel_rfl
theorem pairB_spec {a b x t : Nat} (ha : 1 ≤ a ∧ a ≤ 12) (hb : 1 ≤ b ∧ b ≤ 12) (hx : x ≤ a) (ht : t ≤ a) (h : x % Nat.gcd a b = t % Nat.gcd a b) :
    x = t ∨ t = 0 ∨ t = a ∨ hitB (fw a b) t ((a + b) / Nat.gcd a b) (x, 0) = true ∨ hitB (bw a b) t ((a + b) / Nat.gcd a b) (x, 0) = true := by
  have hp := pairB_true
  unfold pairB at hp
  simp only [List.all_eq_true, List.mem_range] at hp
  have := hp (a - 1) (by omega) (b - 1) (by omega) x (by omega) t (by omega)
  rw [Nat.sub_add_cancel ha.1, Nat.sub_add_cancel hb.1] at this
  simp only [Bool.or_eq_true, Bool.not_eq_true', bq] at this
  rcases this with ((((h1 | h1) | h1) | h1) | h1) | h1
  · exact absurd h (bq_no.1 h1)
  · exact .inl h1
  · exact .inr (.inl h1)
  · exact .inr (.inr (.inl h1))
  · exact .inr (.inr (.inr (.inl h1)))
  · exact .inr (.inr (.inr (.inr h1)))
def stepsA (a b : Nat) : Nat := (a + b) / Nat.gcd a b
/-- The tank k is empty: the tank i is brought to t, that is the same modulo the greatest common divisor. -/
theorem pair_go {n : Nat} {c : St} {X : St} {i k t : Nat} (hi : i < n) (hk : k < n) (hik : i ≠ k) (hc : ∀ j, j < n → 1 ≤ c j ∧ c j ≤ 12) (h0 : X k = 0) (hx : X i ≤ c i) (ht : t ≤ c i) (h : X i % Nat.gcd (c i) (c k) = t % Nat.gcd (c i) (c k)) :
    Go n c (stepsA (c i) (c k)) X (upd X i t) := by
  have hg : 0 < Nat.gcd (c i) (c k) := Nat.gcd_pos_of_pos_left _ (hc i hi).1
  have h1 : 1 ≤ stepsA (c i) (c k) := by
    unfold stepsA
    refine Nat.div_pos ?_ hg
    have := Nat.le_of_dvd (hc i hi).1 (Nat.gcd_dvd_left (c i) (c k))
    omega
  have e1 : X = lift X i k (X i, 0) := by
    unfold lift
    rw [upd_self, upd_to h0]
  have e2 : upd X i t = lift X i k (t, 0) := by
    unfold lift
    have : upd X i t k = 0 := by rw [upd_other _ _ (Ne.symm hik)]; exact h0
    rw [upd_to this]
  rcases pairB_spec (hc i hi) (hc k hk) hx ht h with rfl | rfl | rfl | h2 | h2
  · rw [upd_self]; exact .refl _ _
  · exact (Go.one (.empty X i hi)).mono h1
  · exact (Go.one (.fill X i hi)).mono h1
  · rw [e2]
    have := hit_go (X := X) (fun s => one_fw X hi hk hik s) _ _ h2
    rw [← e1] at this
    exact this
  · rw [e2]
    have := hit_go (X := X) (fun s => one_bw X hi hk hik s) _ _ h2
    rw [← e1] at this
    exact this
/-- What is in tank i goes into the empty tank k. -/
theorem move_go {n : Nat} {c : St} {X : St} {i k : Nat} (hi : i < n) (hk : k < n) (hik : i ≠ k) (h0 : X k = 0) (hx : X i ≤ c k) : Go n c 1 X (upd (upd X i 0) k (X i)) := by
  have := One.pour (c := c) X i k hi hk hik
  rw [h0, Nat.sub_zero, Nat.min_eq_left hx, Nat.sub_self, Nat.zero_add] at this
  exact Go.one this

/-! ### One tank, with several helpers -/
def crtB : Bool := (List.range 12).all fun c' => (List.range 12).all fun u' => (List.range 12).all fun v' =>
  !(Nat.beq ((c' + 1) % (u' + 1)) 0) || !(Nat.beq ((c' + 1) % (v' + 1)) 0) || (List.range (c' + 2)).all fun x => (List.range (c' + 2)).all fun t =>
    !(Nat.beq (x % Nat.gcd (u' + 1) (v' + 1)) (t % Nat.gcd (u' + 1) (v' + 1))) || (List.range (c' + 2)).any fun y => Nat.beq (y % (u' + 1)) (x % (u' + 1)) && Nat.beq (y % (v' + 1)) (t % (v' + 1))
set_option maxRecDepth 100000 in
theorem crtB_true : crtB = true := by kernel_rfl
theorem crt {c u v x t : Nat} (hc : 1 ≤ c ∧ c ≤ 12) (hu : u ∣ c) (hv : v ∣ c) (hx : x ≤ c) (ht : t ≤ c) (h : x % Nat.gcd u v = t % Nat.gcd u v) : ∃ y, y ≤ c ∧ y % u = x % u ∧ y % v = t % v := by
  have u1 : 1 ≤ u := Nat.pos_of_dvd_of_pos hu hc.1
  have v1 : 1 ≤ v := Nat.pos_of_dvd_of_pos hv hc.1
  have u2 := Nat.le_of_dvd hc.1 hu
  have v2 := Nat.le_of_dvd hc.1 hv
  have hp := crtB_true
  unfold crtB at hp
  simp only [List.all_eq_true, List.mem_range] at hp
  have := hp (c - 1) (by omega) (u - 1) (by omega) (v - 1) (by omega)
  rw [Nat.sub_add_cancel hc.1, Nat.sub_add_cancel u1, Nat.sub_add_cancel v1] at this
  simp only [Bool.or_eq_true, Bool.not_eq_true', List.all_eq_true, List.mem_range, List.any_eq_true, Bool.and_eq_true, bq] at this
  rcases this with (h1 | h1) | h1
  · exact absurd (Nat.mod_eq_zero_of_dvd hu) (bq_no.1 h1)
  · exact absurd (Nat.mod_eq_zero_of_dvd hv) (bq_no.1 h1)
  · rcases h1 x (by omega) t (by omega) with h2 | ⟨y, hy, h3, h4⟩
    · exact absurd h (bq_no.1 h2)
    · exact ⟨y, by omega, h3, h4⟩
def gcdJ (c : St) (j k : Nat) : List Nat → Nat
  | [] => Nat.gcd (c j) (c k)
  | i :: is => Nat.gcd (Nat.gcd (c j) (c i)) (gcdJ c j k is)
def costJ (c : St) (j k : Nat) : List Nat → Nat
  | [] => stepsA (c j) (c k)
  | i :: is => stepsA (c j) (c i) + 2 + costJ c j k is
theorem gcdJ_dvd (c : St) (j k : Nat) : ∀ is, gcdJ c j k is ∣ c j
  | [] => Nat.gcd_dvd_left _ _
  | _ :: _ => Nat.dvd_trans (Nat.gcd_dvd_left _ _) (Nat.gcd_dvd_left _ _)
theorem tank_go {n : Nat} {c : St} {j k : Nat} (hj : j < n) (hk : k < n) (hjk : j ≠ k) (hc : ∀ i, i < n → 1 ≤ c i ∧ c i ≤ 12) : ∀ (is : List Nat) (X : St) (t : Nat), (∀ i ∈ is, i < n ∧ i ≠ j ∧ i ≠ k ∧ X i ≤ c k ∧ X i ≤ c i) → X k = 0 → X j ≤ c j → t ≤ c j →
    X j % gcdJ c j k is = t % gcdJ c j k is → Go n c (costJ c j k is) X (upd X j t)
  | [], X, t, _, h0, hx, ht, h => pair_go hj hk hjk hc h0 hx ht h
  | i :: is, X, t, his, h0, hx, ht, h => by
    obtain ⟨hi, hij, hik, hi1, hi2⟩ := his i (by simp)
    obtain ⟨y, hy, hy1, hy2⟩ := crt (hc j hj) (Nat.gcd_dvd_left (c j) (c i)) (gcdJ_dvd c j k is) hx ht h
    have s1 := move_go (c := c) hi hk hik h0 hi1
    have a1 : upd (upd X i 0) k (X i) i = 0 := by rw [upd_other _ _ hik, upd_same]
    have a2 : upd (upd X i 0) k (X i) j = X j := by rw [upd_other _ _ hjk, upd_other _ _ (Ne.symm hij)]
    have s2 := pair_go (X := upd (upd X i 0) k (X i)) (t := y) hj hi (Ne.symm hij) hc a1 (by rw [a2]; exact hx) hy (by rw [a2]; exact hy1.symm)
    have a3 : upd (upd (upd X i 0) k (X i)) j y i = 0 := by rw [upd_other _ _ hij]; exact a1
    have a4 : upd (upd (upd X i 0) k (X i)) j y k = X i := by rw [upd_other _ _ (Ne.symm hjk), upd_same]
    have s3 := move_go (c := c) (X := upd (upd (upd X i 0) k (X i)) j y) hk hi (Ne.symm hik) a3 (by rw [a4]; exact hi2)
    have e : upd (upd (upd (upd (upd X i 0) k (X i)) j y) k 0) i (upd (upd (upd X i 0) k (X i)) j y k) = upd X j y := by
      rw [a4]
      funext q
      unfold upd
      by_cases q1 : q = i
      · subst q1; simp [hij]
      · by_cases q2 : q = k
        · subst q2; simp [q1, Ne.symm hjk, h0]
        · simp [q1, q2]
    rw [e] at s3
    have ih := tank_go hj hk hjk hc is (upd X j y) t (fun q hq => by
      obtain ⟨b1, b2, b3, b4, b5⟩ := his q (by simp [hq])
      rw [upd_other _ _ b2]
      exact ⟨b1, b2, b3, b4, b5⟩) (by rw [upd_other _ _ (Ne.symm hjk)]; exact h0) (by rw [upd_same]; exact hy) ht (by rw [upd_same]; exact hy2)
    rw [upd_upd] at ih
    exact (((s1.trans s2).trans s3).trans ih).mono (by simp only [costJ]; omega)
theorem tank_sym {n : Nat} {c : St} {j k : Nat} (hj : j < n) (hk : k < n) (hjk : j ≠ k) (hc : ∀ i, i < n → 1 ≤ c i ∧ c i ≤ 12) (is : List Nat) (X : St) (t : Nat) (his : ∀ i ∈ is, i < n ∧ i ≠ j ∧ i ≠ k ∧ X i ≤ c k ∧ X i ≤ c i) (h0 : X k = 0) (hx : X j ≤ c j) (ht : t ≤ c j)
    (h : X j % gcdJ c j k is = t % gcdJ c j k is) : Sym n c (costJ c j k is) X (upd X j t) := by
  refine ⟨tank_go hj hk hjk hc is X t his h0 hx ht h, ?_⟩
  have := tank_go hj hk hjk hc is (upd X j t) (X j) (fun q hq => by
    obtain ⟨b1, b2, b3, b4, b5⟩ := his q hq
    rw [upd_other _ _ b2]
    exact ⟨b1, b2, b3, b4, b5⟩) (by rw [upd_other _ _ (Ne.symm hjk)]; exact h0) (by rw [upd_same]; exact ht) hx (by rw [upd_same]; exact h.symm)
  rw [upd_upd, upd_self] at this
  exact this
end Go.Proofs.Ytikcpfpeoofppaa.far

/- Plain mathematics: where deeds lead from some levels to others, at most 200 do (TankReturns): all tanks down to residues, residues moved about. -/
namespace Go.Proofs.Ytikcpfpeoofppaa.far

/-! ### All tanks -/
def setAll (X T : St) : List Nat → St
  | [] => X
  | j :: js => setAll (upd X j (T j)) T js
def sumD (d : Nat → Nat) : List Nat → Nat
  | [] => 0
  | j :: js => d j + sumD d js
theorem setAll_at (T : St) : ∀ (js : List Nat) (X : St) (i : Nat), setAll X T js i = if i ∈ js then T i else X i
  | [], X, i => by simp [setAll]
  | j :: js, X, i => by
    rw [setAll, setAll_at T js]
    by_cases h1 : i ∈ js
    · simp [h1]
    · by_cases h2 : i = j
      · subst h2; simp [h1, upd_same]
      · simp [h1, h2, upd_other]
theorem pass {n : Nat} {c : St} (P : St → Prop) (d : Nat → Nat) (T : St) : ∀ (js : List Nat) (X : St), P X → (∀ X j, j ∈ js → P X → P (upd X j (T j)) ∧ Sym n c (d j) X (upd X j (T j))) → Sym n c (sumD d js) X (setAll X T js)
  | [], X, _, _ => .refl _ _
  | j :: js, X, hP, h => by
    obtain ⟨h1, h2⟩ := h X j (by simp) hP
    exact h2.trans (pass P d T js (upd X j (T j)) h1 fun Y i hi hY => h Y i (by simp [hi]) hY)
/-- The greatest common divisor of the first n. -/
def gcdN (c : St) : Nat → Nat
  | 0 => 0
  | n + 1 => Nat.gcd (gcdN c n) (c n)
theorem gcdN_dvd (c : St) : ∀ n i, i < n → gcdN c n ∣ c i
  | n + 1, i, h => by
    unfold gcdN
    by_cases e : i = n
    · subst e; exact Nat.gcd_dvd_right _ _
    · exact Nat.dvd_trans (Nat.gcd_dvd_left _ _) (gcdN_dvd c n i (by omega))
theorem dvd_gcdN (c : St) (d : Nat) : ∀ n, (∀ i, i < n → d ∣ c i) → d ∣ gcdN c n
  | 0, _ => Nat.dvd_zero _
  | n + 1, h => Nat.dvd_gcd (dvd_gcdN c d n fun i hi => h i (by omega)) (h n (by omega))
def others (n j k : Nat) : List Nat := (List.range n).filter fun i => i != j && i != k
theorem mem_others {n j k i : Nat} : i ∈ others n j k ↔ i < n ∧ i ≠ j ∧ i ≠ k := by simp [others]
theorem gcdJ_all (c : St) (j k : Nat) : ∀ is d, d ∣ gcdJ c j k is ↔ d ∣ c j ∧ d ∣ c k ∧ ∀ i ∈ is, d ∣ c i
  | [], d => by simp [gcdJ, Nat.dvd_gcd_iff]
  | i :: is, d => by
    rw [gcdJ, Nat.dvd_gcd_iff, Nat.dvd_gcd_iff, gcdJ_all c j k is d]
    simp only [List.mem_cons, forall_eq_or_imp]
    constructor
    · rintro ⟨⟨h1, h2⟩, h3, h4, h5⟩; exact ⟨h1, h4, h2, h5⟩
    · rintro ⟨h1, h2, h3, h4⟩; exact ⟨⟨h1, h3⟩, h1, h2, h4⟩
theorem gcdJ_others (c : St) {n j k : Nat} (hj : j < n) (hk : k < n) : gcdJ c j k (others n j k) = gcdN c n := by
  refine Nat.dvd_antisymm (dvd_gcdN _ _ _ fun i hi => ?_) ((gcdJ_all _ _ _ _ _).2 ⟨gcdN_dvd c n j hj, gcdN_dvd c n k hk, fun i hi => gcdN_dvd c n i (mem_others.1 hi).1⟩)
  have := (gcdJ_all c j k (others n j k) _).1 (Nat.dvd_refl _)
  by_cases h1 : i = j
  · subst h1; exact this.1
  · by_cases h2 : i = k
    · subst h2; exact this.2.1
    · exact this.2.2 i (mem_others.2 ⟨hi, h1, h2⟩)
/-- The helpers that are wanted. -/
def helps (n : Nat) (c : St) (j k : Nat) : List Nat := bif Nat.beq (Nat.gcd (c j) (c k)) (gcdN c n) then [] else others n j k
theorem mem_helps {n : Nat} {c : St} {j k i : Nat} (h : i ∈ helps n c j k) : i < n ∧ i ≠ j ∧ i ≠ k := by
  unfold helps at h
  cases hb : Nat.beq (Nat.gcd (c j) (c k)) (gcdN c n) with
  | true => rw [hb] at h; simp at h
  | false => rw [hb] at h; exact mem_others.1 h
theorem gcdJ_helps (c : St) {n j k : Nat} (hj : j < n) (hk : k < n) : gcdJ c j k (helps n c j k) = gcdN c n := by
  unfold helps
  cases hb : Nat.beq (Nat.gcd (c j) (c k)) (gcdN c n) with
  | true => exact bq.1 hb
  | false => exact gcdJ_others c hj hk
def but (n k : Nat) : List Nat := (List.range n).filter fun i => i != k
theorem mem_but {n k i : Nat} : i ∈ but n k ↔ i < n ∧ i ≠ k := by simp [but]
def cost1 (c : St) (k : Nat) (j : Nat) : Nat := stepsA (c j) (c k)
def cost2 (n : Nat) (c : St) (k : Nat) (j : Nat) : Nat := bif Nat.beq (Nat.gcd (c j) (c k)) (gcdN c n) then 0 else costJ c j k (others n j k)
def costR (n : Nat) (c : St) (k : Nat) : Nat := sumD (cost1 c k) (but n k) + sumD (cost2 n c k) (but n k)
/-- The residues of levels. -/
def res (g : Nat) (X : St) : St := fun i => X i % g
structure Ok (n : Nat) (c : St) (X : St) : Prop where
  le : ∀ i, i < n → X i ≤ c i
  out : ∀ i, n ≤ i → X i = 0
structure Caps (n : Nat) (c : St) : Prop where
  one : ∀ i, i < n → 1 ≤ c i ∧ c i ≤ 12
  pos : 0 < n
theorem Caps.g {n : Nat} {c : St} (h : Caps n c) : 0 < gcdN c n := Nat.pos_of_dvd_of_pos (gcdN_dvd c n 0 h.pos) (h.one 0 h.pos).1
theorem Caps.gle {n : Nat} {c : St} (h : Caps n c) {i : Nat} (hi : i < n) : gcdN c n ≤ c i := Nat.le_of_dvd (h.one i hi).1 (gcdN_dvd c n i hi)
/-- Where some tank is empty, all come down to their residues, and back. -/
theorem reduce {n : Nat} {c X : St} {k : Nat} (hc : Caps n c) (hX : Ok n c X) (hk : k < n) (h0 : X k = 0) : Sym n c (costR n c k) X (res (gcdN c n) X) := by
  obtain ⟨T1, hT1⟩ : ∃ T1 : St, T1 = fun j => X j % Nat.gcd (c j) (c k) := ⟨_, rfl⟩
  have eT1 : ∀ j, T1 j = X j % Nat.gcd (c j) (c k) := fun j => by rw [hT1]
  have g1 : ∀ j, j < n → 0 < Nat.gcd (c j) (c k) := fun j hj => Nat.gcd_pos_of_pos_left _ (hc.one j hj).1
  have p1 := pass (n := n) (c := c) (fun Y => Y k = 0 ∧ ∀ i, i < n → Y i = X i ∨ Y i = T1 i) (cost1 c k) T1 (but n k) X ⟨h0, fun i _ => .inl rfl⟩ (fun Y j hj hY => by
    obtain ⟨hjn, hjk⟩ := mem_but.1 hj
    have hm : Y j % Nat.gcd (c j) (c k) = T1 j % Nat.gcd (c j) (c k) := by
      rcases hY.2 j hjn with e | e
      · rw [e, eT1, Nat.mod_mod]
      · rw [e]
    have hle : Y j ≤ c j := by
      rcases hY.2 j hjn with e | e
      · rw [e]; exact hX.le j hjn
      · rw [e, eT1]; exact Nat.le_trans (Nat.mod_le _ _) (hX.le j hjn)
    have hT : T1 j ≤ c j := by rw [eT1]; exact Nat.le_trans (Nat.mod_le _ _) (hX.le j hjn)
    refine ⟨⟨by rw [upd_other _ _ (Ne.symm hjk)]; exact hY.1, fun i hi => ?_⟩, tank_sym hjn hk hjk hc.one [] Y (T1 j) (by simp) hY.1 hle hT hm⟩
    by_cases e : i = j
    · subst e; rw [upd_same]; exact .inr rfl
    · rw [upd_other _ _ e]; exact hY.2 i hi)
  obtain ⟨X1, hX1⟩ : ∃ X1, X1 = setAll X T1 (but n k) := ⟨_, rfl⟩
  rw [← hX1] at p1
  have e1 : ∀ i, X1 i = if i < n ∧ i ≠ k then X i % Nat.gcd (c i) (c k) else X i := fun i => by
    rw [hX1, setAll_at, eT1]; simp only [mem_but]
  have p2 := pass (n := n) (c := c) (fun Y => Y k = 0 ∧ ∀ i, i < n → i ≠ k → (Y i = X1 i ∨ Y i = X i % gcdN c n)) (cost2 n c k) (res (gcdN c n) X) (but n k) X1 ⟨by rw [e1, if_neg (by simp)]; exact h0, fun i _ _ => .inl rfl⟩ (fun Y j hj hY => by
    obtain ⟨hjn, hjk⟩ := mem_but.1 hj
    have hgd : gcdN c n ∣ Nat.gcd (c j) (c k) := Nat.dvd_gcd (gcdN_dvd c n j hjn) (gcdN_dvd c n k hk)
    have hsm : ∀ i, i < n → i ≠ k → Y i ≤ c k ∧ Y i ≤ c i := fun i hi hik => by
      have hl1 := Nat.le_of_dvd (hc.one i hi).1 (Nat.gcd_dvd_left (c i) (c k))
      have hl2 := Nat.le_of_dvd (hc.one k hk).1 (Nat.gcd_dvd_right (c i) (c k))
      rcases hY.2 i hi hik with e | e
      · rw [e, e1, if_pos ⟨hi, hik⟩]
        have := Nat.mod_lt (X i) (g1 i hi)
        omega
      · rw [e]
        have := Nat.mod_lt (X i) hc.g
        have := hc.gle hi
        have := hc.gle hk
        omega
    have hmj : Y j % gcdN c n = res (gcdN c n) X j % gcdN c n := by
      unfold res
      rw [Nat.mod_mod]
      rcases hY.2 j hjn hjk with e | e
      · rw [e, e1, if_pos ⟨hjn, hjk⟩, Nat.mod_mod_of_dvd _ hgd]
      · rw [e, Nat.mod_mod]
    have hrl : res (gcdN c n) X j ≤ c j := Nat.le_trans (Nat.mod_le _ _) (hX.le j hjn)
    refine ⟨⟨by rw [upd_other _ _ (Ne.symm hjk)]; exact hY.1, fun i hi hik => ?_⟩, ?_⟩
    · by_cases e : i = j
      · subst e; rw [upd_same]; exact .inr rfl
      · rw [upd_other _ _ e]; exact hY.2 i hi hik
    · unfold cost2
      by_cases hg : Nat.gcd (c j) (c k) = gcdN c n
      · rw [show Nat.beq (Nat.gcd (c j) (c k)) (gcdN c n) = true from bq.2 hg]
        have : Y j = res (gcdN c n) X j := by
          unfold res
          rcases hY.2 j hjn hjk with e | e
          · rw [e, e1, if_pos ⟨hjn, hjk⟩, hg]
          · exact e
        rw [← this, upd_self]
        exact .refl _ _
      · rw [show Nat.beq (Nat.gcd (c j) (c k)) (gcdN c n) = false from bq_no.2 hg]
        refine tank_sym hjn hk hjk hc.one (others n j k) Y _ (fun i hi => ?_) hY.1 (hsm j hjn hjk).2 hrl (by rw [gcdJ_others c hjn hk]; exact hmj)
        obtain ⟨a1, a2, a3⟩ := mem_others.1 hi
        exact ⟨a1, a2, a3, hsm i a1 a3⟩)
  have e2 : setAll X1 (res (gcdN c n) X) (but n k) = res (gcdN c n) X := by
    funext i
    rw [setAll_at]
    simp only [mem_but]
    by_cases h : i < n ∧ i ≠ k
    · rw [if_pos h]
    · rw [if_neg h, e1, if_neg h]
      unfold res
      have : X i = 0 := by
        by_cases hi : i < n
        · have : i = k := by omega
          rw [this]; exact h0
        · exact hX.out i (by omega)
      rw [this, Nat.zero_mod]
  rw [e2] at p2
  exact p1.trans p2

/-! ### Counting -/
def ind (a v : Nat) : Nat := if a = v then 1 else 0
def cnt (v : Nat) (Z : St) : Nat → Nat
  | 0 => 0
  | n + 1 => cnt v Z n + ind (Z n) v
theorem cnt_congr {v : Nat} {Z W : St} : ∀ n, (∀ i, i < n → Z i = W i) → cnt v Z n = cnt v W n
  | 0, _ => rfl
  | n + 1, h => by rw [cnt, cnt, cnt_congr n (fun i hi => h i (by omega)), h n (by omega)]
theorem cnt_upd (v : Nat) (Z : St) (p a : Nat) : ∀ n, p < n → cnt v (upd Z p a) n + ind (Z p) v = cnt v Z n + ind a v
  | n + 1, h => by
    rw [cnt, cnt]
    by_cases e : p = n
    · subst e
      rw [upd_same, cnt_congr (W := Z) p (fun i hi => upd_other _ _ (by omega))]
      omega
    · rw [upd_other _ _ (Ne.symm e)]
      have := cnt_upd v Z p a n (by omega)
      omega
theorem cnt_ex {v : Nat} {Z : St} : ∀ n, 1 ≤ cnt v Z n → ∃ p, p < n ∧ Z p = v
  | n + 1, h => by
    rw [cnt] at h
    by_cases e : Z n = v
    · exact ⟨n, by omega, e⟩
    · unfold ind at h
      rw [if_neg e] at h
      obtain ⟨p, hp, hq⟩ := cnt_ex n h
      exact ⟨p, by omega, hq⟩
theorem cnt_pos {v : Nat} {Z : St} : ∀ n p, p < n → Z p = v → 1 ≤ cnt v Z n
  | n + 1, p, hp, h => by
    rw [cnt]
    by_cases e : p = n
    · subst e
      unfold ind
      rw [if_pos h]; omega
    · have := cnt_pos n p (by omega) h
      omega
theorem cnt_le (v : Nat) (Z : St) : ∀ n, cnt v Z n ≤ n
  | 0 => Nat.le_refl _
  | n + 1 => by
    have := cnt_le v Z n
    rw [cnt]
    unfold ind
    split <;> omega
theorem cnt_all {v : Nat} {Z : St} : ∀ n, cnt v Z n = n → ∀ i, i < n → Z i = v
  | n + 1, h, i, hi => by
    have h1 := cnt_le v Z n
    rw [cnt] at h
    by_cases e : Z n = v
    · have h2 : cnt v Z n = n := by unfold ind at h; rw [if_pos e] at h; omega
      by_cases e2 : i = n
      · subst e2; exact e
      · exact cnt_all n h2 i (by omega)
    · unfold ind at h; rw [if_neg e] at h; omega

/-! ### Moving residues about -/
def swap (Z : St) (p q : Nat) : St := upd (upd Z p (Z q)) q (Z p)
theorem swap_cnt (v : Nat) (Z : St) {p q n : Nat} (hp : p < n) (hq : q < n) : cnt v (swap Z p q) n = cnt v Z n := by
  unfold swap
  have h1 := cnt_upd v Z p (Z q) n hp
  have h2 := cnt_upd v (upd Z p (Z q)) q (Z p) n hq
  have h3 : upd Z p (Z q) q = Z q := by
    by_cases e : q = p
    · subst e; rw [upd_same]
    · rw [upd_other _ _ e]
  rw [h3] at h2
  omega
theorem swap_at (Z : St) (p q i : Nat) : swap Z p q i = if i = q then Z p else if i = p then Z q else Z i := rfl
theorem swap_go {n : Nat} {c Z : St} {p q e : Nat} (hp : p < n) (hq : q < n) (he : e < n) (h0 : Z e = 0) (hs : ∀ i j, i < n → j < n → Z i ≤ c j) : Go n c 3 Z (swap Z p q) := by
  by_cases hpq : p = q
  · subst hpq
    have : swap Z p p = Z := by funext i; rw [swap_at]; split <;> simp_all
    rw [this]; exact .refl _ _
  · by_cases h1 : Z q = 0
    · have s1 := move_go (c := c) hp hq hpq h1 (hs p q hp hq)
      have : swap Z p q = upd (upd Z p 0) q (Z p) := by unfold swap; rw [h1]
      rw [this]; exact s1.mono (by omega)
    · by_cases h2 : Z p = 0
      · have s1 := move_go (c := c) hq hp (Ne.symm hpq) h2 (hs q p hq hp)
        have : swap Z p q = upd (upd Z q 0) p (Z q) := by
          funext i; unfold swap upd
          by_cases a : i = q
          · subst a; simp [h2, Ne.symm hpq]
          · simp [a]
        rw [this]; exact s1.mono (by omega)
      · have hqe : q ≠ e := fun h => h1 (h ▸ h0)
        have hpe : p ≠ e := fun h => h2 (h ▸ h0)
        have s1 := move_go (c := c) hp he hpe h0 (hs p e hp he)
        have a1 : upd (upd Z p 0) e (Z p) p = 0 := by rw [upd_other _ _ hpe, upd_same]
        have a2 : upd (upd Z p 0) e (Z p) q = Z q := by rw [upd_other _ _ hqe, upd_other _ _ (Ne.symm hpq)]
        have s2 := move_go (c := c) (X := upd (upd Z p 0) e (Z p)) hq hp (Ne.symm hpq) a1 (by rw [a2]; exact hs q p hq hp)
        rw [a2] at s2
        have a3 : upd (upd (upd (upd Z p 0) e (Z p)) q 0) p (Z q) q = 0 := by rw [upd_other _ _ (Ne.symm hpq), upd_same]
        have a4 : upd (upd (upd (upd Z p 0) e (Z p)) q 0) p (Z q) e = Z p := by rw [upd_other _ _ (Ne.symm hpe), upd_other _ _ (Ne.symm hqe), upd_same]
        have s3 := move_go (c := c) (X := upd (upd (upd (upd Z p 0) e (Z p)) q 0) p (Z q)) he hq (Ne.symm hqe) a3 (by rw [a4]; exact hs p q hp hq)
        rw [a4] at s3
        have : swap Z p q = upd (upd (upd (upd (upd (upd Z p 0) e (Z p)) q 0) p (Z q)) e 0) q (Z p) := by
          funext i; unfold swap upd
          by_cases b1 : i = q
          · subst b1; simp
          · by_cases b2 : i = e
            · subst b2; simp [b1, Ne.symm hpe, h0]
            · by_cases b3 : i = p
              · subst b3; simp [b1, b2]
              · simp [b1, b2, b3]
        rw [this]
        exact (s1.trans s2).trans s3
theorem perm_go {n : Nat} {c W : St} (hW : ∀ i j, i < n → j < n → W i ≤ c j) (hWo : ∀ i, n ≤ i → W i = 0) : ∀ (m : Nat) (Z : St), m ≤ n → (∀ i, m ≤ i → Z i = W i) → (∀ v, cnt v Z m = cnt v W m) → (∃ e, e < n ∧ Z e = 0) → (∀ i j, i < n → j < n → Z i ≤ c j) → Go n c (3 * m) Z W
  | 0, Z, _, h, _, _, _ => by
    have : Z = W := by funext i; exact h i (by omega)
    rw [this]; exact .refl _ _
  | m + 1, Z, hm, h, hv, ⟨e, he, he0⟩, hs => by
    have h1 : 1 ≤ cnt (W m) Z (m + 1) := by rw [hv]; exact cnt_pos _ m (by omega) rfl
    obtain ⟨p, hp, hpv⟩ := cnt_ex _ h1
    have s1 := swap_go (c := c) (p := p) (q := m) (by omega) (by omega) he he0 hs
    have hm0 : swap Z p m m = W m := by rw [swap_at, if_pos rfl]; exact hpv
    have hb : ∀ i, i < n → ∃ j, j < n ∧ swap Z p m i = Z j := fun i hi => by
      rw [swap_at]
      split
      · exact ⟨p, by omega, rfl⟩
      · split
        · exact ⟨m, by omega, rfl⟩
        · exact ⟨i, hi, rfl⟩
    have s2 := perm_go hW hWo m (swap Z p m) (by omega) (fun i hi => by
      by_cases e : i = m
      · subst e; exact hm0
      · rw [swap_at, if_neg e, if_neg (by omega)]; exact h i (by omega)) (fun v => by
        have a1 := swap_cnt v Z (show p < m + 1 by omega) (show m < m + 1 by omega)
        have a2 := hv v
        rw [cnt, hm0] at a1
        rw [a1.symm.trans rfl] at a2
        rw [cnt] at a2
        omega) (by
        by_cases e1 : e = m
        · refine ⟨p, by omega, ?_⟩
          subst e1
          rw [swap_at]
          split
          · rename_i h9; subst h9; exact he0
          · rw [if_pos rfl]; exact he0
        · by_cases e2 : e = p
          · subst e2
            exact ⟨m, by omega, by rw [swap_at, if_pos rfl]; exact he0⟩
          · exact ⟨e, he, by rw [swap_at, if_neg e1, if_neg e2]; exact he0⟩) (fun i j hi hj => by
        obtain ⟨i', hi', e⟩ := hb i hi
        rw [e]; exact hs i' j hi' hj)
    exact (s1.trans s2).mono (by omega)
end Go.Proofs.Ytikcpfpeoofppaa.far

/- Plain mathematics: where deeds lead from some levels to others, at most 200 do (TankReturns): what is left of the residues behind each deed. -/
namespace Go.Proofs.Ytikcpfpeoofppaa.far

/-- Some tank is empty or full. -/
def Edge (n : Nat) (c X : St) : Prop := ∃ k, k < n ∧ (X k = 0 ∨ X k = c k)
theorem one_ok {n : Nat} {c X Y : St} (h : One n c X Y) (hX : Ok n c X) : Ok n c Y := by
  have hset : ∀ i v, i < n → v ≤ c i → ∀ Z, Ok n c Z → Ok n c (upd Z i v) := fun i v hi hv Z hZ => ⟨fun q hq => by
    by_cases e : q = i
    · subst e; rw [upd_same]; exact hv
    · rw [upd_other _ _ e]; exact hZ.le q hq, fun q hq => by rw [upd_other _ _ (by omega)]; exact hZ.out q hq⟩
  cases h with
  | fill i hi => exact hset i _ hi (Nat.le_refl _) _ hX
  | empty i hi => exact hset i _ hi (Nat.zero_le _) _ hX
  | pour i j hi hj hij =>
    have := hX.le i hi
    have := hX.le j hj
    exact hset j _ hj (by omega) _ (hset i _ hi (by omega) _ hX)
theorem one_edge {n : Nat} {c X Y : St} (h : One n c X Y) (hX : Ok n c X) : Edge n c Y := by
  cases h with
  | fill i hi => exact ⟨i, hi, .inr (upd_same _ _ _)⟩
  | empty i hi => exact ⟨i, hi, .inl (upd_same _ _ _)⟩
  | pour i j hi hj hij =>
    have := hX.le j hj
    by_cases h : X i ≤ c j - X j
    · refine ⟨i, hi, .inl ?_⟩
      rw [upd_other _ _ hij, upd_same]; omega
    · refine ⟨j, hj, .inr ?_⟩
      rw [upd_same]; omega
theorem go_ok {n : Nat} {c : St} {D : Nat} {X Y : St} (h : Go n c D X Y) (hX : Ok n c X) : Ok n c Y := by
  induction h with
  | refl => exact hX
  | step _ h2 ih => exact one_ok h2 (ih hX)
/-- The most that R and E can be. -/
structure Most (n : Nat) (c : St) (R E : Nat) : Prop where
  r : ∀ k, k < n → costR n c k ≤ R
  e : ∀ j k, j < n → k < n → j ≠ k → 1 + costJ c j k (helps n c j k) ≤ E
  two : 2 ≤ E
theorem res_lt {n : Nat} {c : St} (hc : Caps n c) (X : St) (i : Nat) : res (gcdN c n) X i < gcdN c n := Nat.mod_lt _ hc.g
theorem edge_res {n : Nat} {c X : St} (h : Edge n c X) : ∃ k, k < n ∧ res (gcdN c n) X k = 0 := by
  obtain ⟨k, hk, h | h⟩ := h
  · exact ⟨k, hk, by unfold res; rw [h, Nat.zero_mod]⟩
  · exact ⟨k, hk, by unfold res; rw [h]; exact Nat.mod_eq_zero_of_dvd (gcdN_dvd c n k hk)⟩
theorem res_zero {n : Nat} {c X : St} {k : Nat} (hk : k < n) (h : X k = c k) : res (gcdN c n) (upd X k 0) = res (gcdN c n) X := by
  funext i
  unfold res
  by_cases e : i = k
  · subst e
    rw [upd_same, h, Nat.zero_mod, Nat.mod_eq_zero_of_dvd (gcdN_dvd c n i hk)]
  · rw [upd_other _ _ e]
theorem upd_ok {n : Nat} {c X : St} (hX : Ok n c X) {k v : Nat} (hk : k < n) (hv : v ≤ c k) : Ok n c (upd X k v) :=
  ⟨fun q hq => by
    by_cases e : q = k
    · subst e; rw [upd_same]; exact hv
    · rw [upd_other _ _ e]; exact hX.le q hq, fun q hq => by rw [upd_other _ _ (by omega)]; exact hX.out q hq⟩
/-- From levels with an edge down to their residues, and back. -/
theorem down {n : Nat} {c X : St} {R E : Nat} (hc : Caps n c) (hm : Most n c R E) (hX : Ok n c X) (h : Edge n c X) : Go n c (R + 1) X (res (gcdN c n) X) ∧ Go n c (R + 1) (res (gcdN c n) X) X := by
  obtain ⟨k, hk, h | h⟩ := h
  · have := (reduce hc hX hk h).mono (Nat.le_succ_of_le (hm.r k hk))
    exact this
  · have s := (reduce hc (upd_ok hX hk (Nat.zero_le _)) hk (upd_same X k 0)).mono (hm.r k hk)
    rw [res_zero hk h] at s
    have s1 := Go.one (One.empty (c := c) X k hk)
    have s2 := Go.one (One.fill (c := c) (upd X k 0) k hk)
    rw [upd_upd, upd_to h] at s2
    exact ⟨(s1.trans s.1).mono (by omega), s.2.trans s2⟩
theorem cnt_zero_edge {n : Nat} {c X : St} (h : Edge n c X) : 1 ≤ cnt 0 (res (gcdN c n) X) n := by
  obtain ⟨k, hk, h0⟩ := edge_res h
  exact cnt_pos n k hk h0

/-! ### Two residues become one -/
theorem merge {n : Nat} {c Z : St} {R E : Nat} (hc : Caps n c) (hm : Most n c R E) {p q : Nat} (hp : p < n) (hq : q < n) (hpq : p ≠ q) (hZ : ∀ i, i < n → Z i < gcdN c n) :
    ∃ Z', Go n c E Z Z' ∧ (Z' = upd (upd Z p 0) q ((Z p + Z q) % gcdN c n) ∨ Z' = upd (upd Z p ((Z p + Z q) % gcdN c n)) q 0) := by
  have hgp := hc.gle hp
  have hgq := hc.gle hq
  have lp := hZ p hp
  have lq := hZ q hq
  have s1 := Go.one (One.pour (c := c) Z p q hp hq hpq)
  by_cases h : Z p ≤ c q - Z q
  · rw [Nat.min_eq_left h, Nat.sub_self, Nat.add_comm (Z q)] at s1
    have e0 : upd (upd Z p 0) q (Z p + Z q) p = 0 := by rw [upd_other _ _ hpq, upd_same]
    have e1 : upd (upd Z p 0) q (Z p + Z q) q = Z p + Z q := upd_same _ _ _
    have s2 := tank_go (c := c) hq hp (Ne.symm hpq) hc.one (helps n c q p) (upd (upd Z p 0) q (Z p + Z q)) ((Z p + Z q) % gcdN c n) (fun i hi => by
      obtain ⟨a1, a2, a3⟩ := mem_helps hi
      rw [upd_other _ _ a2, upd_other _ _ a3]
      have := hZ i a1
      have := hc.gle a1
      exact ⟨a1, a2, a3, by omega, by omega⟩) e0 (by rw [e1]; omega) (by have := Nat.mod_lt (Z p + Z q) hc.g; omega) (by rw [e1, gcdJ_helps c hq hp, Nat.mod_mod])
    rw [upd_upd] at s2
    exact ⟨_, (s1.trans s2).mono (hm.e q p hq hp (Ne.symm hpq)), .inl rfl⟩
  · have hcq : c q = gcdN c n := by
      obtain ⟨m, hmq⟩ := gcdN_dvd c n q hq
      have h2 : c q < gcdN c n * 2 := by omega
      rw [hmq] at h2
      have h3 : m < 2 := Nat.lt_of_mul_lt_mul_left h2
      have h4 : m ≠ 0 := fun e => by rw [e] at hmq; have := (hc.one q hq).1; omega
      have : m = 1 := by omega
      rw [hmq, this, Nat.mul_one]
    have hmod : (Z p + Z q) % gcdN c n = Z p + Z q - gcdN c n := by
      rw [Nat.mod_eq_sub_mod (by omega), Nat.mod_eq_of_lt (by omega)]
    rw [Nat.min_eq_right (by omega)] at s1
    have s2 := Go.one (One.empty (c := c) (upd (upd Z p (Z p - (c q - Z q))) q (Z q + (c q - Z q))) q hq)
    rw [upd_upd] at s2
    refine ⟨_, (s1.trans s2).mono hm.two, .inr ?_⟩
    rw [hmod]
    congr 2
    omega

/-! ### Along the deeds -/
/-- Residues as those of Y, in some order, can be had from L. -/
def Inv (n : Nat) (c L : St) (R E : Nat) (Y : St) : Prop :=
  ∃ Z, (∀ v, cnt v Z n = cnt v (res (gcdN c n) Y) n) ∧ (∀ i, i < n → Z i < gcdN c n) ∧ (∀ i, n ≤ i → Z i = 0) ∧ Go n c (2 + R + (cnt 0 (res (gcdN c n) Y) n - 1) * E) L Z
theorem inv_start {n : Nat} {c L Y : St} {R E : Nat} (hc : Caps n c) (hm : Most n c R E) (hL : Ok n c L) (h : One n c L Y) : Inv n c L R E Y := by
  have hY := one_ok h hL
  have he := one_edge h hL
  refine ⟨res (gcdN c n) Y, fun _ => rfl, fun i _ => res_lt hc Y i, fun i hi => by unfold res; rw [hY.out i hi, Nat.zero_mod], ?_⟩
  exact ((Go.one h).trans (down hc hm hY he).1).mono (by omega)
theorem inv_more {n : Nat} {c L Y Y' : St} {R E : Nat} (h : Inv n c L R E Y) (he : ∀ v, cnt v (res (gcdN c n) Y') n = cnt v (res (gcdN c n) Y) n) : Inv n c L R E Y' := by
  obtain ⟨Z, h1, h2, h3, h4⟩ := h
  exact ⟨Z, fun v => by rw [he v]; exact h1 v, h2, h3, by rw [he 0]; exact h4⟩
theorem inv_turn {n : Nat} {c L Y Y' Z Z' : St} {R E : Nat} (hY : Edge n c Y) (h4 : Go n c (2 + R + (cnt 0 (res (gcdN c n) Y) n - 1) * E) L Z)
    (k1 : ∀ v, cnt v Z' n = cnt v (res (gcdN c n) Y') n) (k2 : ∀ i, i < n → Z' i < gcdN c n) (k3 : ∀ i, n ≤ i → Z' i = 0) (k4 : Go n c E Z Z') (k5 : cnt 0 (res (gcdN c n) Y) n < cnt 0 (res (gcdN c n) Y') n) : Inv n c L R E Y' := by
  have h0 := cnt_zero_edge hY
  refine ⟨Z', k1, k2, k3, (h4.trans k4).mono ?_⟩
  have h5 : (cnt 0 (res (gcdN c n) Y) n - 1 + 1) * E ≤ (cnt 0 (res (gcdN c n) Y') n - 1) * E := Nat.mul_le_mul_right _ (by omega)
  rw [Nat.succ_mul] at h5
  omega
theorem res_upd (g : Nat) (X : St) (i v : Nat) : res g (upd X i v) = upd (res g X) i (v % g) := by
  funext q
  unfold res upd
  split <;> rfl
theorem ind_self (a : Nat) : ind a a = 1 := by simp [ind]
theorem ind_ne {a b : Nat} (h : a ≠ b) : ind a b = 0 := by simp [ind, h]
theorem inv_step {n : Nat} {c L Y Y' : St} {R E : Nat} (hc : Caps n c) (hm : Most n c R E) (hY : Ok n c Y) (hE : Edge n c Y) (h : One n c Y Y') (hi : Inv n c L R E Y) : Inv n c L R E Y' := by
  obtain ⟨Z, h1, h2, h3, h4⟩ := hi
  have hI : Inv n c L R E Y := ⟨Z, h1, h2, h3, h4⟩
  have hg := hc.g
  -- a residue goes
  have gone : ∀ i, i < n → res (gcdN c n) Y' = upd (res (gcdN c n) Y) i 0 → Inv n c L R E Y' := fun i hin he => by
    by_cases h0 : res (gcdN c n) Y i = 0
    · rw [upd_to h0] at he
      exact inv_more hI fun v => by rw [he]
    · have hp : 1 ≤ cnt (res (gcdN c n) Y i) Z n := by rw [h1]; exact cnt_pos n i hin rfl
      obtain ⟨p, hpn, hpv⟩ := cnt_ex n hp
      have b1 := fun v => cnt_upd v Z p 0 n hpn
      have b2 := fun v => cnt_upd v (res (gcdN c n) Y) i 0 n hin
      rw [hpv] at b1
      refine inv_turn (Z' := upd Z p 0) hE h4 (fun v => ?_) (fun q hq => ?_) (fun q hq => by rw [upd_other _ _ (by omega)]; exact h3 q hq) ((Go.one (.empty Z p hpn)).mono (Nat.le_trans (by omega) hm.two)) ?_
      · have := b1 v; have := b2 v; have := h1 v; rw [he]; omega
      · by_cases e : q = p
        · subst e; rw [upd_same]; exact hg
        · rw [upd_other _ _ e]; exact h2 q hq
      · have b3 := b2 0
        rw [ind_ne h0, ind_self] at b3
        rw [he]; omega
  cases h with
  | fill i hin => exact gone i hin (by rw [res_upd, Nat.mod_eq_zero_of_dvd (gcdN_dvd c n i hin)])
  | empty i hin => exact gone i hin (by rw [res_upd, Nat.zero_mod])
  | pour i j hin hjn hij =>
    have lj := hY.le j hjn
    obtain ⟨s, hs⟩ : ∃ s, s = (res (gcdN c n) Y i + res (gcdN c n) Y j) % gcdN c n := ⟨_, rfl⟩
    have hsY : s = (Y i + Y j) % gcdN c n := by rw [hs]; unfold res; rw [← Nat.add_mod]
    have hsg : s < gcdN c n := by rw [hs]; exact Nat.mod_lt _ hg
    have he : res (gcdN c n) (upd (upd Y i (Y i - min (Y i) (c j - Y j))) j (Y j + min (Y i) (c j - Y j))) = upd (upd (res (gcdN c n) Y) i 0) j s ∨
        res (gcdN c n) (upd (upd Y i (Y i - min (Y i) (c j - Y j))) j (Y j + min (Y i) (c j - Y j))) = upd (upd (res (gcdN c n) Y) i s) j 0 := by
      rw [res_upd, res_upd]
      by_cases hle : Y i ≤ c j - Y j
      · left
        rw [Nat.min_eq_left hle, Nat.sub_self, Nat.zero_mod, hsY, Nat.add_comm]
      · right
        have e1 : Y j + (c j - Y j) = c j := by omega
        rw [Nat.min_eq_right (by omega), e1, Nat.mod_eq_zero_of_dvd (gcdN_dvd c n j hjn), hsY]
        congr 2
        obtain ⟨m, hmj⟩ := gcdN_dvd c n j hjn
        have e2 : Y i + Y j = (Y i - (c j - Y j)) + gcdN c n * m := by omega
        rw [e2, Nat.add_mul_mod_self_left]
    -- the count of residues
    have hcount : ∀ v, cnt v (res (gcdN c n) (upd (upd Y i (Y i - min (Y i) (c j - Y j))) j (Y j + min (Y i) (c j - Y j)))) n + ind (res (gcdN c n) Y i) v + ind (res (gcdN c n) Y j) v = cnt v (res (gcdN c n) Y) n + ind 0 v + ind s v := fun v => by
      rcases he with he | he
      · have b1 := cnt_upd v (res (gcdN c n) Y) i 0 n hin
        have b2 := cnt_upd v (upd (res (gcdN c n) Y) i 0) j s n hjn
        rw [upd_other _ _ (Ne.symm hij)] at b2
        rw [he]; omega
      · have b1 := cnt_upd v (res (gcdN c n) Y) i s n hin
        have b2 := cnt_upd v (upd (res (gcdN c n) Y) i s) j 0 n hjn
        rw [upd_other _ _ (Ne.symm hij)] at b2
        rw [he]; omega
    by_cases hi0 : res (gcdN c n) Y i = 0
    · refine inv_more hI fun v => ?_
      have h9 := hcount v
      have : s = res (gcdN c n) Y j := by rw [hs, hi0, Nat.zero_add]; exact Nat.mod_eq_of_lt (res_lt hc Y j)
      rw [hi0, this] at h9
      omega
    · by_cases hj0 : res (gcdN c n) Y j = 0
      · refine inv_more hI fun v => ?_
        have h9 := hcount v
        have : s = res (gcdN c n) Y i := by rw [hs, hj0, Nat.add_zero]; exact Nat.mod_eq_of_lt (res_lt hc Y i)
        rw [hj0, this] at h9
        omega
      · have hp : 1 ≤ cnt (res (gcdN c n) Y i) Z n := by rw [h1]; exact cnt_pos n i hin rfl
        obtain ⟨p, hpn, hpv⟩ := cnt_ex n hp
        have hq : 1 ≤ cnt (res (gcdN c n) Y j) (upd Z p 0) n := by
          have b1 := cnt_upd (res (gcdN c n) Y j) Z p 0 n hpn
          have b2 := cnt_upd (res (gcdN c n) Y j) (res (gcdN c n) Y) i 0 n hin
          have b3 := cnt_pos (Z := upd (res (gcdN c n) Y) i 0) n j hjn (upd_other _ _ (Ne.symm hij))
          have b4 := h1 (res (gcdN c n) Y j)
          rw [hpv] at b1
          omega
        obtain ⟨q, hqn, hqv⟩ := cnt_ex n hq
        have hqp : q ≠ p := fun e => by
          subst e
          rw [upd_same] at hqv
          exact hj0 hqv.symm
        rw [upd_other _ _ hqp] at hqv
        obtain ⟨Z', g1, g2⟩ := merge hc hm hpn hqn (Ne.symm hqp) h2
        rw [hpv, hqv, ← hs] at g2
        have hcz : ∀ v, cnt v Z' n + ind (res (gcdN c n) Y i) v + ind (res (gcdN c n) Y j) v = cnt v Z n + ind 0 v + ind s v := fun v => by
          rcases g2 with rfl | rfl
          · have b1 := cnt_upd v Z p 0 n hpn
            have b2 := cnt_upd v (upd Z p 0) q s n hqn
            rw [upd_other _ _ hqp, hqv] at b2
            rw [hpv] at b1
            omega
          · have b1 := cnt_upd v Z p s n hpn
            have b2 := cnt_upd v (upd Z p s) q 0 n hqn
            rw [upd_other _ _ hqp, hqv] at b2
            rw [hpv] at b1
            omega
        refine inv_turn hE h4 (fun v => ?_) (fun r hr => ?_) (fun r hr => ?_) g1 ?_
        · have := hcz v; have := hcount v; have := h1 v; omega
        · rcases g2 with rfl | rfl
          · by_cases e : r = q
            · subst e; rw [upd_same]; exact hsg
            · rw [upd_other _ _ e]
              by_cases e2 : r = p
              · subst e2; rw [upd_same]; exact hg
              · rw [upd_other _ _ e2]; exact h2 r hr
          · by_cases e : r = q
            · subst e; rw [upd_same]; exact hg
            · rw [upd_other _ _ e]
              by_cases e2 : r = p
              · subst e2; rw [upd_same]; exact hsg
              · rw [upd_other _ _ e2]; exact h2 r hr
        · rcases g2 with rfl | rfl
          · rw [upd_other _ _ (by omega), upd_other _ _ (by omega)]; exact h3 r hr
          · rw [upd_other _ _ (by omega), upd_other _ _ (by omega)]; exact h3 r hr
        · have h9 := hcount 0
          rw [ind_ne hi0, ind_ne hj0, ind_self] at h9
          omega
theorem go_inv {n : Nat} {c L Y : St} {R E D : Nat} (hc : Caps n c) (hm : Most n c R E) (h : Go n c D L Y) (hL : Ok n c L) : Y = L ∨ (Edge n c Y ∧ Inv n c L R E Y) := by
  induction h with
  | refl => exact .inl rfl
  | step h1 h2 ih =>
    rcases ih hL with rfl | ⟨k1, k2⟩
    · exact .inr ⟨one_edge h2 hL, inv_start hc hm hL h2⟩
    · have hY := go_ok h1 hL
      exact .inr ⟨one_edge h2 hY, inv_step hc hm hY k1 h2 k2⟩
/-- All are emptied. -/
theorem empty_go {n : Nat} {c : St} : ∀ (m : Nat) (X : St), m ≤ n → Go n c m X fun i => if i < m then 0 else X i
  | 0, X, _ => by
    have : (fun i => if i < 0 then 0 else X i) = X := by funext i; simp
    rw [this]; exact .refl _ _
  | m + 1, X, h => by
    have s1 := empty_go (n := n) (c := c) m X (Nat.le_of_succ_le h)
    have s2 := Go.one (One.empty (n := n) (c := c) (fun i => if i < m then 0 else X i) m (Nat.lt_of_succ_le h))
    have e : upd (fun i => if i < m then 0 else X i) m 0 = fun i => if i < m + 1 then 0 else X i := by
      funext i
      unfold upd
      by_cases e : i = m
      · subst e; simp
      · simp only [e, if_false]
        by_cases h : i < m
        · rw [if_pos h, if_pos (by omega)]
        · rw [if_neg h, if_neg (by omega)]
    rw [e] at s2
    exact s1.trans s2
/-- From levels to whatever they lead to. -/
theorem far {n : Nat} {c L M : St} {R E D : Nat} (hc : Caps n c) (hm : Most n c R E) (hL : Ok n c L) (h : Go n c D L M) : Go n c (n + R + 1) L M ∨ (2 ≤ gcdN c n ∧ Go n c (2 + R + (n - 2) * E + 3 * n + (R + 1)) L M) := by
  rcases go_inv hc hm h hL with rfl | ⟨hE, Z, h1, h2, h3, h4⟩
  · exact .inl (.refl _ _)
  · have hM := go_ok h hL
    have hd := (down hc hm hM hE).2
    have hro : ∀ i, n ≤ i → res (gcdN c n) M i = 0 := fun i hi => by unfold res; rw [hM.out i hi, Nat.zero_mod]
    by_cases ht : cnt 0 (res (gcdN c n) M) n = n
    · left
      have hz : res (gcdN c n) M = fun i => if i < n then 0 else L i := by
        funext i
        by_cases hi : i < n
        · rw [if_pos hi]; exact cnt_all n ht i hi
        · rw [if_neg hi, hro i (by omega), hL.out i (by omega)]
      have s1 := empty_go (c := c) n L (Nat.le_refl _)
      rw [← hz] at s1
      exact (s1.trans hd).mono (by omega)
    · right
      have hl := cnt_le 0 (res (gcdN c n) M) n
      have h0 := cnt_zero_edge hE
      have hg2 : 2 ≤ gcdN c n := by
        have := hc.g
        by_cases e : gcdN c n = 1
        · exfalso
          refine ht ?_
          have : ∀ m, cnt 0 (res (gcdN c n) M) m = m := fun m => by
            induction m with
            | zero => rfl
            | succ m ih => rw [cnt, ih]; unfold res; rw [e, Nat.mod_one, ind_self]
          exact this n
        · omega
      refine ⟨hg2, ?_⟩
      have hs : ∀ X : St, (∀ i, i < n → X i < gcdN c n) → ∀ i j, i < n → j < n → X i ≤ c j := fun X hX i j hi hj => by
        have := hX i hi
        have := hc.gle hj
        omega
      have h5 : 1 ≤ cnt 0 Z n := by rw [h1]; exact h0
      obtain ⟨e, he, he0⟩ := cnt_ex n h5
      have s1 := perm_go (c := c) (hs _ fun i _ => res_lt hc M i) hro n Z (Nat.le_refl _) (fun i hi => by rw [h3 i hi, hro i hi]) h1 ⟨e, he, he0⟩ (hs _ h2)
      refine ((h4.trans s1).trans hd).mono ?_
      have : (cnt 0 (res (gcdN c n) M) n - 1) * E ≤ (n - 2) * E := Nat.mul_le_mul_right _ (by omega)
      omega

/-! ### The numbers -/
def capF (a b d e : Nat) : St := fun i => bif Nat.beq i 0 then a else bif Nat.beq i 1 then b else bif Nat.beq i 2 then d else bif Nat.beq i 3 then e else 0
def maxL : List Nat → Nat
  | [] => 0
  | x :: xs => max x (maxL xs)
theorem le_maxL {x : Nat} : ∀ {l : List Nat}, x ∈ l → x ≤ maxL l
  | y :: l, h => by
    rw [maxL]
    rcases List.mem_cons.1 h with rfl | h
    · exact Nat.le_max_left _ _
    · exact Nat.le_trans (le_maxL h) (Nat.le_max_right _ _)
def mR (n : Nat) (c : St) : Nat := maxL ((List.range n).map (costR n c))
def mE (n : Nat) (c : St) : Nat := max 2 (maxL ((List.range n).flatMap fun j => (but n j).map fun k => 1 + costJ c j k (helps n c j k)))
theorem most (n : Nat) (c : St) : Most n c (mR n c) (mE n c) := by
  refine ⟨fun k hk => le_maxL (List.mem_map.2 ⟨k, List.mem_range.2 hk, rfl⟩), fun j k hj hk hjk => ?_, Nat.le_max_left _ _⟩
  exact Nat.le_trans (le_maxL (List.mem_flatMap.2 ⟨j, List.mem_range.2 hj, List.mem_map.2 ⟨k, mem_but.2 ⟨hk, Ne.symm hjk⟩, rfl⟩⟩)) (Nat.le_max_right _ _)
def fits (n : Nat) (c : St) : Bool := Nat.ble (n + mR n c + 1) 200 && (Nat.beq (gcdN c n) 1 || Nat.ble (2 + mR n c + (n - 2) * mE n c + 3 * n + (mR n c + 1)) 200)
def upTo (f : Nat → Bool) : Bool := (List.range 12).all fun a => f (a + 1)
theorem upTo_spec {f : Nat → Bool} (h : upTo f = true) {a : Nat} (ha : 1 ≤ a ∧ a ≤ 12) : f a = true := by
  unfold upTo at h
  rw [List.all_eq_true] at h
  have := h (a - 1) (List.mem_range.2 (by omega))
  rwa [Nat.sub_add_cancel ha.1] at this
def nums2 : Bool := upTo fun a => upTo fun b => fits 2 (capF a b 0 0)
def nums3 : Bool := upTo fun a => upTo fun b => upTo fun d => fits 3 (capF a b d 0)
def nums4 : Bool := upTo fun a => upTo fun b => upTo fun d => upTo fun e => fits 4 (capF a b d e)
set_option maxRecDepth 100000 in
theorem nums2_true : nums2 = true := by kernel_rfl
set_option maxRecDepth 100000 in
theorem nums3_true : nums3 = true := by kernel_rfl
end Go.Proofs.Ytikcpfpeoofppaa.far

/- Plain mathematics: where deeds lead from some levels to others, at most 200 do (TankReturns): the numbers for four tanks. -/
namespace Go.Proofs.Ytikcpfpeoofppaa.far
def row4 (a : Nat) : Bool := upTo fun b => upTo fun d => upTo fun e => fits 4 (capF a b d e)
set_option maxRecDepth 100000 in
theorem row4_1 : row4 1 = true := by kernel_rfl
set_option maxRecDepth 100000 in
theorem row4_2 : row4 2 = true := by kernel_rfl
set_option maxRecDepth 100000 in
theorem row4_3 : row4 3 = true := by kernel_rfl
set_option maxRecDepth 100000 in
theorem row4_4 : row4 4 = true := by kernel_rfl
set_option maxRecDepth 100000 in
theorem row4_5 : row4 5 = true := by kernel_rfl
set_option maxRecDepth 100000 in
theorem row4_6 : row4 6 = true := by kernel_rfl
set_option maxRecDepth 100000 in
theorem row4_7 : row4 7 = true := by kernel_rfl
set_option maxRecDepth 100000 in
theorem row4_8 : row4 8 = true := by kernel_rfl
set_option maxRecDepth 100000 in
theorem row4_9 : row4 9 = true := by kernel_rfl
set_option maxRecDepth 100000 in
theorem row4_10 : row4 10 = true := by kernel_rfl
set_option maxRecDepth 100000 in
theorem row4_11 : row4 11 = true := by kernel_rfl
set_option maxRecDepth 100000 in
theorem row4_12 : row4 12 = true := by kernel_rfl
theorem row4_all {a : Nat} (ha : 1 ≤ a ∧ a ≤ 12) : row4 a = true := by
  rcases (show a = 1 ∨ a = 2 ∨ a = 3 ∨ a = 4 ∨ a = 5 ∨ a = 6 ∨ a = 7 ∨ a = 8 ∨ a = 9 ∨ a = 10 ∨ a = 11 ∨ a = 12 by omega) with rfl | rfl | rfl | rfl | rfl | rfl | rfl | rfl | rfl | rfl | rfl | rfl
  · exact row4_1
  · exact row4_2
  · exact row4_3
  · exact row4_4
  · exact row4_5
  · exact row4_6
  · exact row4_7
  · exact row4_8
  · exact row4_9
  · exact row4_10
  · exact row4_11
  · exact row4_12
end Go.Proofs.Ytikcpfpeoofppaa.far

/- Plain mathematics: where deeds lead from some levels to others, at most 200 do (TankReturns): of lists. -/
namespace Go.Proofs.Ytikcpfpeoofppaa
open far (upd upd_same upd_other St One)

/-- Levels as a function. -/
def toF (l : List Int) : St := fun i => (l.getD i 0).toNat
theorem toF_set {l : List Int} {i : Nat} (hi : i < l.length) (x : Int) : toF (l.set i x) = upd (toF l) i x.toNat := by
  funext q
  unfold toF upd
  rw [getD_setI hi]
  by_cases h : i = q
  · subst h; simp
  · rw [if_neg h, if_neg (Ne.symm h)]
theorem toF_inj {t l m : List Int} (hl : Lev t l) (hm : Lev t m) (h : toF l = toF m) : l = m := by
  refine lev_ext hl hm fun j hj => ?_
  have h1 := congrFun h j
  unfold toF at h1
  have := hl.2 j hj
  have := hm.2 j hj
  omega
theorem toF_ok {t l : List Int} (hl : Lev t l) : far.Ok t.length (toF t) (toF l) := by
  refine ⟨fun i hi => ?_, fun i hi => ?_⟩
  · have := hl.2 i hi
    unfold toF; omega
  · unfold toF
    rw [List.getD_eq_getElem?_getD, List.getElem?_eq_none (by rw [hl.1]; exact hi)]
    rfl
theorem toF_caps {t : List Int} (ht : Tvl t) : far.Caps t.length (toF t) := by
  refine ⟨fun i hi => ?_, by have := ht.lo; omega⟩
  have := ht.holds _ (mem_getD hi)
  unfold toF; omega
theorem toF_pour {t l : List Int} (hl : Lev t l) {i j : Nat} (hi : i < t.length) (hj : j < t.length) (hij : i ≠ j) :
    toF (doneL t l (3, (i : Int), (j : Int))) = upd (upd (toF l) i (toF l i - min (toF l i) (toF t j - toF l j))) j (toF l j + min (toF l i) (toF t j - toF l j)) := by
  have e : doneL t l (3, (i : Int), (j : Int)) = pour l i j (l.getD i 0) (l.getD j 0) (min (l.getD i 0) (t.getD j 0 - l.getD j 0)) := by unfold doneL; simp
  have h1 := hl.2 i hi
  have h2 := hl.2 j hj
  rw [e]
  unfold pour
  rw [toF_set (by rw [List.length_set, hl.1]; exact hj), toF_set (by rw [hl.1]; exact hi)]
  have m1 : (l.getD i 0 - min (l.getD i 0) (t.getD j 0 - l.getD j 0)).toNat = toF l i - min (toF l i) (toF t j - toF l j) := by unfold toF; omega
  have m2 : (l.getD j 0 + min (l.getD i 0) (t.getD j 0 - l.getD j 0)).toNat = toF l j + min (toF l i) (toF t j - toF l j) := by unfold toF; omega
  rw [m1, m2]
theorem one_of {t l : List Int} (hl : Lev t l) {d : Deed} (hd : IsD t.length d) : One t.length (toF t) (toF l) (toF (doneL t l d)) := by
  obtain ⟨d1, d2, d3⟩ := d
  rcases hd with ⟨h1, h2, h3, h4⟩ | ⟨h1, h2, h3, h4, h5, h6⟩
  · simp only at h1 h2 h3 h4
    obtain ⟨k, rfl⟩ := Int.eq_ofNat_of_zero_le h3
    have hk : k < t.length := by omega
    rcases h1 with rfl | rfl
    · have e : doneL t l (1, d2, (k : Int)) = l.set k (t.getD k 0) := by unfold doneL; simp
      rw [e, toF_set (by rw [hl.1]; exact hk)]
      exact .fill (c := toF t) (toF l) k hk
    · have e : doneL t l (2, d2, (k : Int)) = l.set k 0 := by unfold doneL; simp
      rw [e, toF_set (by rw [hl.1]; exact hk)]
      exact .empty (toF l) k hk
  · simp only at h1 h2 h3 h4 h5 h6
    subst h1
    obtain ⟨i, rfl⟩ := Int.eq_ofNat_of_zero_le h2
    obtain ⟨j, rfl⟩ := Int.eq_ofNat_of_zero_le h4
    have hi : i < t.length := by omega
    have hj : j < t.length := by omega
    have hij : i ≠ j := by omega
    rw [toF_pour hl hi hj hij]
    exact .pour (toF l) i j hi hj hij
theorem of_one {t l : List Int} (hl : Lev t l) {Y : St} (h : One t.length (toF t) (toF l) Y) : ∃ d, IsD t.length d ∧ toF (doneL t l d) = Y := by
  generalize hX : toF l = X at h
  cases h with
  | fill i hi =>
    subst hX
    refine ⟨(1, 0, (i : Int)), .inl ⟨.inl rfl, rfl, by simp only; omega, by simp only; omega⟩, ?_⟩
    have e : doneL t l (1, 0, (i : Int)) = l.set i (t.getD i 0) := by unfold doneL; simp
    rw [e, toF_set (by rw [hl.1]; exact hi)]; rfl
  | empty i hi =>
    subst hX
    refine ⟨(2, 0, (i : Int)), .inl ⟨.inr rfl, rfl, by simp only; omega, by simp only; omega⟩, ?_⟩
    have e : doneL t l (2, 0, (i : Int)) = l.set i 0 := by unfold doneL; simp
    rw [e, toF_set (by rw [hl.1]; exact hi)]; rfl
  | pour i j hi hj hij =>
    subst hX
    exact ⟨(3, (i : Int), (j : Int)), .inr ⟨rfl, by simp only; omega, by simp only; omega, by simp only; omega, by simp only; omega, by simp only; omega⟩, toF_pour hl hi hj hij⟩
theorem fold_lev {t : List Int} (ht : Tvl t) : ∀ (ds : List Deed) (l : List Int), Lev t l → (∀ d ∈ ds, IsD t.length d) → Lev t (ds.foldl (doneL t) l)
  | [], _, hl, _ => hl
  | d :: ds, l, hl, hd => fold_lev ht ds (doneL t l d) (doneL_lev ht hl (hd d (by simp))) fun x hx => hd x (by simp [hx])
theorem go_on {t : List Int} (ht : Tvl t) {X : St} : ∀ (ds : List Deed) (l : List Int) (D : Nat), Lev t l → (∀ d ∈ ds, IsD t.length d) → far.Go t.length (toF t) D X (toF l) → ∃ E, far.Go t.length (toF t) E X (toF (ds.foldl (doneL t) l))
  | [], _, D, _, _, h => ⟨D, h⟩
  | d :: ds, l, D, hl, hd, h => go_on ht ds (doneL t l d) (D + 1) (doneL_lev ht hl (hd d (by simp))) (fun x hx => hd x (by simp [hx])) (.step h (one_of hl (hd d (by simp))))
theorem go_of {t l : List Int} (ht : Tvl t) (hl : Lev t l) (ds : List Deed) (hd : ∀ d ∈ ds, IsD t.length d) : ∃ D, far.Go t.length (toF t) D (toF l) (toF (ds.foldl (doneL t) l)) :=
  go_on ht ds l 0 hl hd (.refl _ _)
theorem of_go {t l : List Int} (ht : Tvl t) (hl : Lev t l) {D : Nat} {Y : St} (h : far.Go t.length (toF t) D (toF l) Y) : ∃ qs : List Deed, (∀ d ∈ qs, IsD t.length d) ∧ qs.length ≤ D ∧ toF (qs.foldl (doneL t) l) = Y := by
  generalize hX : toF l = X at h
  induction h with
  | refl D X => exact ⟨[], by simp, by simp, hX⟩
  | step _ h2 ih =>
    obtain ⟨qs, h3, h4, h5⟩ := ih hX
    rw [← h5] at h2
    obtain ⟨d, hd, he⟩ := of_one (fold_lev ht qs l hl h3) h2
    refine ⟨qs ++ [d], fun x hx => ?_, by simp; omega, by rw [List.foldl_append, List.foldl_cons, List.foldl_nil]; exact he⟩
    rcases List.mem_append.1 hx with hx | hx
    · exact h3 x hx
    · simp only [List.mem_singleton] at hx
      subst hx; exact hd
theorem toF_capF {t : List Int} (ht : Tvl t) : t.length = 2 ∧ toF t = far.capF (toF t 0) (toF t 1) 0 0 ∨ t.length = 3 ∧ toF t = far.capF (toF t 0) (toF t 1) (toF t 2) 0 ∨ t.length = 4 ∧ toF t = far.capF (toF t 0) (toF t 1) (toF t 2) (toF t 3) := by
  have h1 := ht.lo
  have h2 := ht.hi
  have hz : ∀ i, t.length ≤ i → toF t i = 0 := fun i hi => by
    unfold toF
    rw [List.getD_eq_getElem?_getD, List.getElem?_eq_none hi]
    rfl
  have key : ∀ d e, (toF t 2 = d) → (toF t 3 = e) → toF t = far.capF (toF t 0) (toF t 1) d e := fun d e hd he => by
    funext i
    unfold far.capF
    by_cases e0 : i = 0
    · subst e0; rfl
    · rw [far.bq_no.2 e0]
      by_cases e1 : i = 1
      · subst e1; rfl
      · rw [far.bq_no.2 e1]
        by_cases e2 : i = 2
        · subst e2; exact hd
        · rw [far.bq_no.2 e2]
          by_cases e3 : i = 3
          · subst e3; exact he
          · rw [far.bq_no.2 e3]; exact hz i (by omega)
  rcases (show t.length = 2 ∨ t.length = 3 ∨ t.length = 4 by omega) with h | h | h
  · exact .inl ⟨h, key 0 0 (hz 2 (by omega)) (hz 3 (by omega))⟩
  · exact .inr (.inl ⟨h, key _ 0 rfl (hz 3 (by omega))⟩)
  · exact .inr (.inr ⟨h, key _ _ rfl rfl⟩)
theorem fits_all {t : List Int} (ht : Tvl t) : far.fits t.length (toF t) = true := by
  have hb : ∀ i, i < t.length → 1 ≤ toF t i ∧ toF t i ≤ 12 := (toF_caps ht).one
  rcases toF_capF ht with ⟨h, e⟩ | ⟨h, e⟩ | ⟨h, e⟩
  · rw [e, h]
    exact far.upTo_spec (far.upTo_spec far.nums2_true (hb 0 (by omega))) (hb 1 (by omega))
  · rw [e, h]
    exact far.upTo_spec (far.upTo_spec (far.upTo_spec far.nums3_true (hb 0 (by omega))) (hb 1 (by omega))) (hb 2 (by omega))
  · rw [e, h]
    exact far.upTo_spec (far.upTo_spec (far.upTo_spec (far.row4_all (hb 0 (by omega))) (hb 1 (by omega))) (hb 2 (by omega))) (hb 3 (by omega))
/-- Where deeds lead, at most 200 lead. -/
theorem near {t l : List Int} (ht : Tvl t) (hl : Lev t l) {ds : List Deed} (hd : ∀ d ∈ ds, IsD t.length d) : ∃ qs : List Deed, (∀ d ∈ qs, IsD t.length d) ∧ qs.length ≤ 200 ∧ qs.foldl (doneL t) l = ds.foldl (doneL t) l := by
  obtain ⟨D, h⟩ := go_of ht hl ds hd
  have hf := fits_all ht
  unfold far.fits at hf
  rw [Bool.and_eq_true, Bool.or_eq_true, Nat.ble_eq, Nat.ble_eq, far.bq] at hf
  have h200 : far.Go t.length (toF t) 200 (toF l) (toF (ds.foldl (doneL t) l)) := by
    rcases far.far (toF_caps ht) (far.most _ _) (toF_ok hl) h with h1 | ⟨hg, h1⟩
    · exact h1.mono hf.1
    · rcases hf.2 with h2 | h2
      · omega
      · exact h1.mono h2
  obtain ⟨qs, h1, h2, h3⟩ := of_go ht hl h200
  exact ⟨qs, h1, h2, toF_inj (fold_lev ht qs l hl h1) (fold_lev ht ds l hl hd) h3⟩
end Go.Proofs.Ytikcpfpeoofppaa
