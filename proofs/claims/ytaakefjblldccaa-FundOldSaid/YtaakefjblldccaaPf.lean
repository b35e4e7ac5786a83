/- Plain: the orders that come of swaps. -/
import Derived.Test.YtaakefjblldccaaData
namespace Go.Proofs.Ytaakefjblldccaa
open Go.RowKit

def swapL (l : List Nat) (a b : Nat) : List Nat := (l.set a (l.getD b 0)).set b (l.getD a 0)
/-- The orders that come of a row, by swaps from a place on, so many left. -/
def pF : Nat → Nat → List Nat → List (List Nat)
  | 0, _, l => [l]
  | m + 1, a, l => (List.range (m + 1)).flatMap fun d => pF m (a + 1) (swapL l a (a + d))
def orders (n : Nat) : List (List Nat) := pF n 0 (List.range n)

def fct : Nat → Nat
  | 0 => 1
  | m + 1 => (m + 1) * fct m
theorem pF_len : ∀ (m a : Nat) (l : List Nat), (pF m a l).length = fct m
  | 0, _, _ => rfl
  | m + 1, a, l => by
    have : ∀ k, ((List.range k).flatMap fun d => pF m (a + 1) (swapL l a (a + d))).length = k * fct m := fun k => by
      induction k with
      | zero => simp
      | succ k ih => rw [List.range_succ, List.flatMap_append, List.length_append, ih]; simp [pF_len m, Nat.succ_mul]
    exact this (m + 1)
theorem pF_part (m a : Nat) (l : List Nat) (k : Nat) : ((List.range k).flatMap fun d => pF m (a + 1) (swapL l a (a + d))).length = k * fct m := by
  induction k with
  | zero => simp
  | succ k ih => rw [List.range_succ, List.flatMap_append, List.length_append, ih]; simp [pF_len m, Nat.succ_mul]

end Go.Proofs.Ytaakefjblldccaa
