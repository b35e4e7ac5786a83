/- Plain mathematics: the mean over all orders is the reference's sum. -/
import Derived.Test.YtaakefjblldccaaMq
namespace Go.Proofs.Ytaakefjblldccaa
open Go.RowKit

def sumI : List Int → Int
  | [] => 0
  | x :: l => x + sumI l
theorem sumI_append : ∀ a b : List Int, sumI (a ++ b) = sumI a + sumI b
  | [], b => by simp [sumI]
  | x :: a, b => by simp [sumI, sumI_append a b]; omega

theorem map_at {n : Nat} {f g : Nat → Tree} (h : (List.range n).map f = (List.range n).map g) {i : Nat} (hi : i < n) : f i = g i := by
  have h1 : i < ((List.range n).map f).length := by simpa using hi
  have h2 : i < ((List.range n).map g).length := by simpa using hi
  have : ((List.range n).map f)[i] = ((List.range n).map g)[i] := by
    congr 1
  simpa using this
theorem ht_eq {n i : Nat} (hn : n ≤ 7) (hi : i < n) : ht1 n i = ht2 n i := by
  match n, hn, hi with
  | 0, _, hi => exact absurd hi (by omega)
  | 1, _, hi => exact map_at ht_1 hi
  | 2, _, hi => exact map_at ht_2 hi
  | 3, _, hi => exact map_at ht_3 hi
  | 4, _, hi => exact map_at ht_4 hi
  | 5, _, hi => exact map_at ht_5 hi
  | 6, _, hi => exact map_at ht_6 hi
  | 7, _, hi =>
    match i, hi with
    | 0, _ => exact ht_70
    | 1, _ => exact ht_71
    | 2, _ => exact ht_72
    | 3, _ => exact ht_73
    | 4, _ => exact ht_74
    | 5, _ => exact ht_75
    | 6, _ => exact ht_76
    | i + 7, hi => exact absurd hi (by omega)
  | n + 8, hn, _ => exact absurd hn (by omega)

theorem fold1 (i n : Nat) (F : List Bool → Int) : ∀ l : List (List Nat), (l.foldr (fun L t => t.add 1 (bv i L (List.replicate n false))) (Tree.zero n)).deep n ∧ (l.foldr (fun L t => t.add 1 (bv i L (List.replicate n false))) (Tree.zero n)).val F = sumI (l.map fun L => F (bv i L (List.replicate n false)))
  | [] => ⟨Tree.zero_deep n, by simp [Tree.zero_val, sumI]⟩
  | L :: l => by
    have ih := fold1 i n F l
    simp only [List.foldr_cons, List.map_cons, sumI]
    refine ⟨Tree.add_deep _ _ _ _ ih.1, ?_⟩
    rw [Tree.add_val _ _ _ _ (by rw [bv_len, List.length_replicate]; exact ih.1), ih.2]
    omega
def wt (n : Nat) (p : List Bool) : Nat := ways (sizeOf p) * ways (n - 1 - sizeOf p)
theorem fold2 (i n : Nat) (F : List Bool → Int) : ∀ l : List Nat, (l.foldr (fun s t => if s / 2 ^ i % 2 = 1 then t else t.add (wt n (bits n s)) (bits n s)) (Tree.zero n)).deep n ∧ (l.foldr (fun s t => if s / 2 ^ i % 2 = 1 then t else t.add (wt n (bits n s)) (bits n s)) (Tree.zero n)).val F = sumI (l.map fun s => if s / 2 ^ i % 2 = 1 then 0 else (wt n (bits n s) : Int) * F (bits n s))
  | [] => ⟨Tree.zero_deep n, by simp [Tree.zero_val, sumI]⟩
  | s :: l => by
    have ih := fold2 i n F l
    simp only [List.foldr_cons, List.map_cons, sumI]
    by_cases h : s / 2 ^ i % 2 = 1
    · rw [if_pos h, if_pos h]
      exact ⟨ih.1, by rw [ih.2]; omega⟩
    · rw [if_neg h, if_neg h]
      refine ⟨Tree.add_deep _ _ _ _ ih.1, ?_⟩
      rw [Tree.add_val _ _ _ _ (by simp only [bits, List.length_map, List.length_range]; exact ih.1), ih.2]
/-- Sums over all orders, by those ahead of one, are sums over all sets. -/
theorem orders_sum {n i : Nat} (hn : n ≤ 7) (hi : i < n) (F : List Bool → Int) : sumI ((orders n).map fun L => F (bv i L (List.replicate n false))) = sumI ((List.range (2 ^ n)).map fun s => if s / 2 ^ i % 2 = 1 then 0 else (wt n (bits n s) : Int) * F (bits n s)) := by
  rw [← (fold1 i n F (orders n)).2, ← (fold2 i n F (List.range (2 ^ n))).2]
  have := ht_eq hn hi
  unfold ht1 ht2 at this
  exact congrArg (fun t => Tree.val t F) this

/-- All orders that come are orders. -/
theorem swapL_perm {l : List Nat} {a b : Nat} (ha : a < l.length) (hb : b < l.length) : (swapL l a b).Perm l := by
  unfold swapL
  rw [List.getD_eq_getElem?_getD, List.getD_eq_getElem?_getD, List.getElem?_eq_getElem ha, List.getElem?_eq_getElem hb]
  simp only [Option.getD_some]
  exact List.set_set_perm ha hb
theorem pF_perm : ∀ (m a : Nat) (l : List Nat), a + m ≤ l.length → ∀ L ∈ pF m a l, L.Perm l
  | 0, a, l, _, L, h => by simp [pF] at h; rw [h]
  | m + 1, a, l, hl, L, h => by
    simp only [pF, List.mem_flatMap, List.mem_range] at h
    obtain ⟨d, hd, h⟩ := h
    have hp := swapL_perm (l := l) (a := a) (b := a + d) (by omega) (by omega)
    exact (pF_perm m (a + 1) _ (by rw [hp.length_eq]; omega) L h).trans hp
theorem orders_ok {n : Nat} {L : List Nat} (h : L ∈ orders n) : L.length = n ∧ L.Nodup ∧ (∀ i ∈ L, i < n) ∧ ∀ i, i < n → i ∈ L := by
  have hp := pF_perm n 0 (List.range n) (by simp) L h
  refine ⟨by rw [hp.length_eq, List.length_range], hp.nodup_iff.2 List.nodup_range, fun i hi => List.mem_range.1 (hp.mem_iff.1 hi), fun i hi => hp.mem_iff.2 (List.mem_range.2 hi)⟩
def facts : List Nat := [1, 1, 2, 6, 24, 120, 720, 5040]
theorem orders_many : (List.range 8).map (fun n => (orders n).length) = facts := by kernel_rfl

/-- What one gets over all orders. -/
theorem middle_sum {c : List Int} (hc : ∀ x ∈ c, 0 ≤ x) (h7 : c.length ≤ 7) {i : Nat} (hi : i < c.length) {e : Int} (he : 0 ≤ e) :
    sumI ((orders c.length).map fun L => (turnS c L (List.replicate c.length 0, e)).1.getD i 0) = sumI ((List.range (2 ^ c.length)).map fun s => if s / 2 ^ i % 2 = 1 then 0 else (wt c.length (bits c.length s) : Int) * fV c i e (bits c.length s)) := by
  rw [← orders_sum h7 hi (fV c i e)]
  congr 1
  apply List.map_congr_left
  intro L hL
  obtain ⟨_, h2, h3, h4⟩ := orders_ok hL
  exact turn_fV hc (h4 i hi) h2 h3 he

end Go.Proofs.Ytaakefjblldccaa
