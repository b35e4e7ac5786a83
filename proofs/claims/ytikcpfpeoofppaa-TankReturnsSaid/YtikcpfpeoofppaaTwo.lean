/- Plain mathematics of Two: the deeds that measure an amount with two tanks. -/
import Derived.Test.YtikcpfpeoofppaaB
namespace Go.Proofs.Ytikcpfpeoofppaa

/-- The next deed with two tanks. -/
def twoD (b p q : Nat) : Nat × Nat × Nat := if q = b then (2, 0, 1) else if p = 0 then (1, 0, 0) else (3, 0, 1)
/-- The levels behind it. -/
def twoP (a b p q : Nat) : Nat := if q = b then p else if p = 0 then a else p - min p (b - q)
def twoQ (b p q : Nat) : Nat := if q = b then 0 else if p = 0 then q else q + min p (b - q)

/-- The deeds until the amount is there. -/
def twoRun (a b n : Nat) : Nat → Nat → Nat → Option (List (Nat × Nat × Nat))
  | 0, _, q => if q = n then some [] else none
  | k + 1, p, q => if q = n then some [] else (twoRun a b n k (twoP a b p q) (twoQ b p q)).map (twoD b p q :: ·)

def twoOk (a b n : Nat) : Bool := decide (n > b) || decide (n % Nat.gcd a b ≠ 0) || (twoRun a b n 64 0 0).isSome
def twoAll : Bool := (List.range 12).all fun i => (List.range 12).all fun j => (List.range 13).all fun n => twoOk (i + 1) (j + 1) n

theorem twoAll_true : twoAll = true := by kernel_rfl

theorem two_some {a b n : Nat} (ha : 1 ≤ a ∧ a ≤ 12) (hb : 1 ≤ b ∧ b ≤ 12) (hn : n ≤ b) (hd : n % Nat.gcd a b = 0) : ∃ l, twoRun a b n 64 0 0 = some l := by
  have h := twoAll_true
  simp only [twoAll, List.all_eq_true, List.mem_range] at h
  have h1 := h (a - 1) (by omega) (b - 1) (by omega) n (by omega)
  rw [show a - 1 + 1 = a by omega, show b - 1 + 1 = b by omega] at h1
  simp only [twoOk, Bool.or_eq_true, decide_eq_true_eq] at h1
  rcases h1 with (h1 | h1) | h1
  · omega
  · exact absurd hd h1
  · exact Option.isSome_iff_exists.1 h1

def dZ (d : Nat × Nat × Nat) : Deed := (d.1, d.2.1, d.2.2)
def twoT (a b n : Nat) : List (Nat × Nat × Nat) := (twoRun a b n 64 0 0).getD []

/-- Where the loop is. -/
structure TwoSt (a b n k p q : Nat) (dn : List (Nat × Nat × Nat)) : Prop where
  p0 : p ≤ a
  q0 : q ≤ b
  len : dn.length + k = 64
  run : ∃ rest, twoRun a b n k p q = some rest ∧ twoT a b n = dn ++ rest

theorem TwoSt.start {a b n : Nat} (ha : 1 ≤ a ∧ a ≤ 12) (hb : 1 ≤ b ∧ b ≤ 12) (hn : n ≤ b) (hd : n % Nat.gcd a b = 0) : TwoSt a b n 64 0 0 [] := by
  obtain ⟨l, hl⟩ := two_some ha hb hn hd
  exact ⟨by omega, by omega, rfl, l, hl, by simp [twoT, hl]⟩

theorem TwoSt.stop {a b n k p : Nat} {dn : List (Nat × Nat × Nat)} (h : TwoSt a b n k p n dn) : twoT a b n = dn := by
  obtain ⟨rest, h1, h2⟩ := h.run
  have : rest = [] := by
    cases k <;> simp [twoRun] at h1 <;> exact h1
  rw [h2, this, List.append_nil]

theorem TwoSt.next {a b n k p q : Nat} {dn : List (Nat × Nat × Nat)} (h : TwoSt a b n k p q dn) (hne : q ≠ n) : ∃ k', k = k' + 1 ∧ TwoSt a b n k' (twoP a b p q) (twoQ b p q) (dn ++ [twoD b p q]) := by
  obtain ⟨rest, h1, h2⟩ := h.run
  have hp := h.p0
  have hq := h.q0
  have hlen := h.len
  cases k with
  | zero => simp [twoRun, hne] at h1
  | succ k =>
    refine ⟨k, rfl, ?_, ?_, ?_, ?_⟩
    · unfold twoP; split <;> (try split) <;> omega
    · unfold twoQ; split <;> (try split) <;> omega
    · simp; omega
    · simp only [twoRun, if_neg hne, Option.map_eq_some_iff] at h1
      obtain ⟨r, hr, rfl⟩ := h1
      exact ⟨r, hr, by rw [h2]; simp⟩

end Go.Proofs.Ytikcpfpeoofppaa
