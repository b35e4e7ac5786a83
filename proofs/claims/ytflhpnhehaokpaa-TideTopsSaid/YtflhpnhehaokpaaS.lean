/- Plain mathematics of ends: the first greatest value of a function over some numbers; the first zero. -/
import Derived.Test.YtflhpnhehaokpaaI
namespace Go.Proofs.Ytflhpnhehaokpaa

/-- m is the greatest value of f below n, and i the first place of it. -/
structure IsFM (f : Nat → Int) (n i : Nat) (m : Int) : Prop where
  lt : i < n
  eq : f i = m
  le : ∀ j, j < n → f j ≤ m
  fst : ∀ j, j < i → f j < m

theorem IsFM.uniq {f : Nat → Int} {n i j : Nat} {m k : Int} (h : IsFM f n i m) (h' : IsFM f n j k) : i = j ∧ m = k := by
  have hmk : m = k := by
    have h1 := h.le j h'.lt
    have h2 := h'.le i h.lt
    rw [h'.eq] at h1
    rw [h.eq] at h2
    omega
  subst hmk
  refine ⟨?_, rfl⟩
  rcases Nat.lt_trichotomy i j with hlt | he | hgt
  · have := h'.fst i hlt; have := h.eq; omega
  · exact he
  · have := h.fst j hgt; have := h'.eq; omega

/-- The first greatest value, found one number after the other. -/
def fmTo (f : Nat → Int) : Nat → Nat × Int
  | 0 => (0, 0)
  | k + 1 => if k = 0 ∨ (fmTo f k).2 < f k then (k, f k) else fmTo f k

theorem fmTo_spec (f : Nat → Int) : ∀ n, 0 < n → IsFM f n (fmTo f n).1 (fmTo f n).2
  | 0, h => by omega
  | n + 1, _ => by
    unfold fmTo
    by_cases h0 : n = 0
    · subst h0
      simp only [true_or, if_true]
      exact ⟨by omega, rfl, fun j hj => by rw [show j = 0 from by omega]; exact Int.le_refl _, fun j hj => by omega⟩
    · have ih := fmTo_spec f n (by omega)
      by_cases hc : (fmTo f n).2 < f n
      · rw [if_pos (Or.inr hc)]
        refine ⟨by simp, rfl, fun j hj => ?_, fun j hj => ?_⟩
        · show f j ≤ f n
          by_cases e : j = n
          · subst e; exact Int.le_refl _
          · have := ih.le j (by omega); omega
        · show f j < f n
          have := ih.le j hj; omega
      · rw [if_neg (by omega)]
        refine ⟨by have := ih.lt; omega, ih.eq, fun j hj => ?_, ih.fst⟩
        by_cases e : j = n
        · subst e; omega
        · exact ih.le j (by omega)

theorem IsFM.eq_fmTo {f : Nat → Int} {n i : Nat} {m : Int} (h : IsFM f n i m) : i = (fmTo f n).1 ∧ m = (fmTo f n).2 :=
  h.uniq (fmTo_spec f n (by have := h.lt; omega))

/-- Over whole periods the first greatest value is that of one. -/
theorem IsFM.more {f : Nat → Int} {b r i : Nat} {m : Int} (hb : 0 < b) (hr : b ≤ r) (hp : ∀ k, f (k % b) = f k) (h : IsFM f b i m) : IsFM f r i m :=
  ⟨by have := h.lt; omega, h.eq, fun j _ => by rw [← hp]; exact h.le _ (Nat.mod_lt _ hb), h.fst⟩

/-- The hour, and the value. -/
def fmI (f : Nat → Int) (n : Nat) : Int := ((fmTo f n).1 : Nat)
def fmV (f : Nat → Int) (n : Nat) : Int := (fmTo f n).2

theorem fm_of {f : Nat → Int} {b r i : Nat} {m : Int} (hb : 0 < b) (hr : b ≤ r) (hp : ∀ k, f (k % b) = f k) (h : IsFM f b i m) : (i : Int) = fmI f r ∧ m = fmV f r := by
  have := (h.more hb hr hp).eq_fmTo
  exact ⟨by unfold fmI; rw [← this.1], this.2⟩

theorem fmTo_congr {f g : Nat → Int} {n : Nat} (h : ∀ k, k < n → f k = g k) : fmTo f n = fmTo g n := by
  induction n with
  | zero => rfl
  | succ n ih =>
    unfold fmTo
    rw [ih (fun k hk => h k (by omega)), h n (by omega)]

/-- The speed, and the drift over n hours, by hours from 0 on. -/
def spN (t : List (List Int)) (k : Nat) : Int := spd t (k : Int)
def acN (t : List (List Int)) (n k : Nat) : Int := acc (spd t) (k : Int) n

theorem spN_mod {t : List (List Int)} {b : Nat} (hp : Per (spd t) b) (k : Nat) : spN t (k % b) = spN t k := by
  unfold spN; rw [Int.natCast_emod, hp.mod]
theorem acN_mod {t : List (List Int)} {b : Nat} (hp : Per (spd t) b) (n k : Nat) : acN t n (k % b) = acN t n k := by
  unfold acN
  rw [Int.natCast_emod]
  refine acc_congr fun i _ => ?_
  have h1 := hp.mul ((k : Int) / b) ((k : Int) % b + i)
  rw [← h1]
  congr 1
  have := Int.emod_add_ediv_mul (k : Int) (b : Int)
  omega

theorem acN_succ (t : List (List Int)) (n k : Nat) : acN t n (k + 1) = acN t n k + (spd t ((k : Int) + n) - spd t k) := by
  unfold acN
  have h1 := acc_succ' (spd t) (k : Int) n
  simp only [acc] at h1
  rw [show ((k + 1 : Nat) : Int) = (k : Int) + 1 from rfl]
  omega

/-- The place of the first hour of slack behind a, or -1. -/
def slk (t : List (List Int)) (a : Int) : Int := fidx (fun i : Nat => spd t (a + i) == 0) (List.range (rnd t))

theorem range_getD {n i : Nat} (h : i < n) : (List.range n).getD i 0 = i := by
  simp [List.getD_eq_getElem?_getD, h]

theorem slk_hit {t : List (List Int)} {a : Int} {k : Nat} (hk : k < rnd t) (hn : ∀ j : Nat, j < k → spd t (a + j) ≠ 0) (h : spd t (a + k) = 0) : slk t a = k :=
  fidx_hit _ _ k 0 (by simpa using hk) (fun i hi => by rw [range_getD (by omega)]; simpa using hn i hi) (by rw [range_getD hk]; simpa using h)

theorem slk_none {t : List (List Int)} {a : Int} (hn : ∀ j : Nat, j < rnd t → spd t (a + j) ≠ 0) : slk t a = -1 :=
  fidx_pre _ _ 0 (fun i hi => by rw [List.length_range] at hi; rw [range_getD hi]; simpa using hn i hi)

theorem slk_cases (t : List (List Int)) (a : Int) : (∃ k : Nat, k < rnd t ∧ slk t a = k ∧ spd t (a + k) = 0 ∧ ∀ j : Nat, j < k → spd t (a + j) ≠ 0) ∨ (slk t a = -1 ∧ ∀ j : Nat, j < rnd t → spd t (a + j) ≠ 0) := by
  by_cases h : ∃ k : Nat, k < rnd t ∧ spd t (a + k) = 0
  · left
    have hex : ∃ k : Nat, (k < rnd t ∧ spd t (a + k) = 0) ∧ ∀ j : Nat, j < k → ¬ (j < rnd t ∧ spd t (a + j) = 0) := by
      obtain ⟨k, hk⟩ := h
      induction k using Nat.strongRecOn with
      | ind k ih =>
        by_cases hj : ∃ j : Nat, j < k ∧ j < rnd t ∧ spd t (a + j) = 0
        · obtain ⟨j, hjk, hj⟩ := hj
          exact ih j hjk hj
        · exact ⟨k, hk, fun j hjk hjr => hj ⟨j, hjk, hjr⟩⟩
    obtain ⟨k, ⟨h1, h2⟩, h3⟩ := hex
    have h4 : ∀ j : Nat, j < k → spd t (a + j) ≠ 0 := fun j hj e => h3 j hj ⟨by omega, e⟩
    exact ⟨k, h1, slk_hit h1 h4 h2, h2, h4⟩
  · right
    have h' : ∀ j : Nat, j < rnd t → spd t (a + j) ≠ 0 := fun j hj e => h ⟨j, hj, e⟩
    exact ⟨slk_none h', h'⟩

def slackV (t : List (List Int)) (a : Int) : Int := if vld t && hourB a then (if slk t a < 0 then 0 else a + slk t a) else 0
def slackE (t : List (List Int)) (a : Int) : Int := if vld t then (if hourB a then (if slk t a < 0 then 5 else 0) else 2) else 10

end Go.Proofs.Ytflhpnhehaokpaa
