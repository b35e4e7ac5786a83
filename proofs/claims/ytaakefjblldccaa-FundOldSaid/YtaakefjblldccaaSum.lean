/- Plain mathematics: whether ratios add up to a whole number, by remainders. -/
import Derived.Test.YtaakefjblldccaaData
import Derived.KernelRfl
namespace Go.Proofs.Ytaakefjblldccaa

/-- A ratio as a pair. -/
abbrev Rat2 := Int × Int

/-- All numerators over all denominators multiplied out, and these. -/
def sumA (l : List Rat2) : Int × Int := l.foldl (fun s x => (s.1 * x.2 + x.1 * s.2, s.2 * x.2)) (0, 1)

/-- They add up to n. -/
def addUp (l : List Rat2) (n : Int) : Bool := (sumA l).1 == n * (sumA l).2

/-- The program's primes, and the reference's moduli. -/
def primes : List Nat := [2147483647, 2147483629, 2147483587, 2147483579, 2147483563, 2147483549]
def modes : List Nat := [2305843009213693951, 2305843009213693952, 2305843009213693953]

theorem dvd_mul_of {a b : Nat} {x : Int} (h : Nat.gcd a b = 1) (ha : (a : Int) ∣ x) (hb : (b : Int) ∣ x) : ((a * b : Nat) : Int) ∣ x := by
  rw [← Int.natAbs_dvd_natAbs] at ha hb ⊢
  simp only [Int.natAbs_natCast] at ha hb ⊢
  exact Nat.Coprime.mul_dvd_of_dvd_of_dvd h ha hb

/-- All that divides by numbers without a common divisor divides by their product. -/
def coAll : List Nat → Nat → Bool
  | [], _ => true
  | p :: l, q => (Nat.gcd q p == 1) && coAll l (q * p)

theorem dvd_all {x : Int} : ∀ (l : List Nat) (q : Nat), coAll l q = true → (q : Int) ∣ x → (∀ p ∈ l, (p : Int) ∣ x) → ((l.foldl (· * ·) q : Nat) : Int) ∣ x
  | [], q, _, h, _ => h
  | p :: l, q, hc, h, k => by
    simp only [coAll, Bool.and_eq_true, beq_iff_eq] at hc
    exact dvd_all l (q * p) hc.2 (dvd_mul_of hc.1 h (k p (by simp))) (fun p' hp => k p' (by simp [hp]))

theorem zero_of_dvd {x : Int} {m : Nat} (h : (m : Int) ∣ x) (hlt : x.natAbs < m) : x = 0 := by
  rw [← Int.natAbs_dvd_natAbs] at h
  simp only [Int.natAbs_natCast] at h
  have := Nat.eq_zero_of_dvd_of_lt h hlt
  omega

theorem all_zero {l : List Nat} (hc : coAll l 1 = true) {x : Int} (hb : x.natAbs < l.foldl (· * ·) 1) : (∀ p ∈ l, (p : Int) ∣ x) ↔ x = 0 := by
  constructor
  · intro h
    exact zero_of_dvd (dvd_all l 1 hc (by simp) h) hb
  · rintro rfl p _
    exact Int.dvd_zero _

theorem primes_co : coAll primes 1 = true := by kernel_rfl
theorem modes_co : coAll modes 1 = true := by kernel_rfl

/-- Both sides are small. -/
def big : Nat := 16000 * 10 ^ 48
theorem primes_big : decide (big < primes.foldl (· * ·) 1) = true := by kernel_rfl
theorem modes_big : decide (big < modes.foldl (· * ·) 1) = true := by kernel_rfl

theorem sum_bound : ∀ (l : List Rat2) (s a : Int) (c : Int) (k : Nat), 0 ≤ s → s ≤ c * a → 1 ≤ a → a ≤ 10 ^ (6 * k) → 0 ≤ c → (∀ x ∈ l, 0 ≤ x.1 ∧ x.1 ≤ 1000 * x.2 ∧ 1 ≤ x.2 ∧ x.2 ≤ 1000000) →
    let r := l.foldl (fun s x => (s.1 * x.2 + x.1 * s.2, s.2 * x.2)) (s, a)
    0 ≤ r.1 ∧ r.1 ≤ (c + 1000 * l.length) * r.2 ∧ 1 ≤ r.2 ∧ r.2 ≤ 10 ^ (6 * (k + l.length))
  | [], s, a, c, k, h1, h2, h3, h4, h5, _ => by simp; exact ⟨h1, h2, h3, h4⟩
  | x :: l, s, a, c, k, h1, h2, h3, h4, h5, hx => by
    obtain ⟨n, d⟩ := x
    obtain ⟨x1, x2, x3, x4⟩ := hx (n, d) (by simp)
    simp only at x1 x2 x3 x4
    have g1 : 0 ≤ s * d + n * a := Int.add_nonneg (Int.mul_nonneg h1 (by omega)) (Int.mul_nonneg x1 (by omega))
    have g2 : s * d + n * a ≤ (c + 1000) * (a * d) := by
      have e1 : s * d ≤ c * a * d := Int.mul_le_mul_of_nonneg_right h2 (by omega)
      have e2 : n * a ≤ 1000 * d * a := Int.mul_le_mul_of_nonneg_right x2 (by omega)
      have e3 : (c + 1000) * (a * d) = c * a * d + 1000 * d * a := by
        rw [Int.add_mul, ← Int.mul_assoc, Int.mul_assoc 1000 d a, Int.mul_comm d a]
      omega
    have g3 : 1 ≤ a * d := by
      have := Int.mul_le_mul h3 x3 (by omega) (by omega)
      omega
    have g4 : a * d ≤ 10 ^ (6 * (k + 1)) := by
      have := Int.mul_le_mul h4 x4 (by omega) (by
        have : (1 : Int) ≤ 10 ^ (6 * k) := by omega
        omega)
      rw [show 6 * (k + 1) = 6 * k + 6 by omega, Int.pow_add]
      omega
    have ih := sum_bound l (s * d + n * a) (a * d) (c + 1000) (k + 1) g1 g2 g3 g4 (by omega) (fun y hy => hx y (by simp [hy]))
    simp only [List.foldl_cons, List.length_cons]
    rw [show (c + 1000 * ((l.length + 1 : Nat) : Int)) = c + 1000 + 1000 * l.length by omega, show k + (l.length + 1) = k + 1 + l.length by omega]
    exact ih

/-- Awards of claims: each from 0 to its claim. -/
def Small (l : List Rat2) : Prop := ∀ x ∈ l, 0 ≤ x.1 ∧ x.1 ≤ 1000 * x.2 ∧ 1 ≤ x.2 ∧ x.2 ≤ 1000000

theorem sumA_bound {l : List Rat2} (h : Small l) (hl : l.length ≤ 8) : 0 ≤ (sumA l).1 ∧ (sumA l).1 ≤ 8000 * 10 ^ 48 ∧ 1 ≤ (sumA l).2 ∧ (sumA l).2 ≤ 10 ^ 48 := by
  obtain ⟨h1, h2, h3, h4⟩ := sum_bound l 0 1 0 0 (by omega) (by omega) (by omega) (by omega) (by omega) h
  have e : (10 : Int) ^ (6 * (0 + l.length)) ≤ 10 ^ 48 := by
    have := Nat.pow_le_pow_right (show 0 < 10 by omega) (show 6 * (0 + l.length) ≤ 48 by omega)
    exact_mod_cast this
  unfold sumA
  generalize hr : l.foldl (fun s x => (s.1 * x.2 + x.1 * s.2, s.2 * x.2)) ((0 : Int), (1 : Int)) = r at *
  have h5 : r.2 ≤ 10 ^ 48 := Int.le_trans h4 e
  refine ⟨h1, ?_, h3, h5⟩
  have h6 : (0 + 1000 * (l.length : Int)) * r.2 ≤ 8000 * r.2 := Int.mul_le_mul_of_nonneg_right (by omega) (by omega)
  omega

theorem addUp_of {ms : List Nat} (hc : coAll ms 1 = true) (hb : decide (big < ms.foldl (· * ·) 1) = true) {l : List Rat2} {n : Int} (h : Small l) (hl : l.length ≤ 8) (hn : 0 ≤ n ∧ n ≤ 8000) :
    (ms.all fun p => (sumA l).1 % (p : Int) == (n * (sumA l).2) % (p : Int)) = addUp l n := by
  obtain ⟨h1, h2, h3, h4⟩ := sumA_bound h hl
  have hb' := of_decide_eq_true hb
  unfold addUp
  generalize (sumA l).1 = s at *
  generalize (sumA l).2 = a at *
  have g1 : 0 ≤ n * a := Int.mul_nonneg hn.1 (by omega)
  have g2 : n * a ≤ 8000 * a := Int.mul_le_mul_of_nonneg_right hn.2 (by omega)
  have hlt : (s - n * a).natAbs < ms.foldl (· * ·) 1 := by
    refine Nat.lt_of_le_of_lt ?_ hb'
    have e : (big : Nat) = 16000 * 10 ^ 48 := rfl
    rw [e]
    omega
  have key := all_zero hc hlt
  rw [Bool.eq_iff_iff, List.all_eq_true, beq_iff_eq]
  constructor
  · intro k
    have := key.1 (fun p hp => by
      have := k p hp
      rw [beq_iff_eq] at this
      exact Int.dvd_of_emod_eq_zero (Int.emod_eq_emod_iff_emod_sub_eq_zero.1 this))
    omega
  · intro k p _
    rw [beq_iff_eq, k]

theorem sumA_snoc {l : List Rat2} {k : Nat} (hk : k < l.length) : sumA (l.take (k + 1)) = ((sumA (l.take k)).1 * (l.getD k (0, 0)).2 + (l.getD k (0, 0)).1 * (sumA (l.take k)).2, (sumA (l.take k)).2 * (l.getD k (0, 0)).2) := by
  rw [List.take_succ_eq_append_getElem hk, sumA, List.foldl_append, List.getD_eq_getElem?_getD, List.getElem?_eq_getElem hk]
  rfl

end Go.Proofs.Ytaakefjblldccaa
