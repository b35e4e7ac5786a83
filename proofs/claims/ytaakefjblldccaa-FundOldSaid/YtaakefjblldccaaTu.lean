/- Plain mathematics: what claimants get who come in an order. -/
import Derived.Test.YtaakefjblldccaaKb
namespace Go.Proofs.Ytaakefjblldccaa
open Go.RowKit

/-- What has been given out, and what is left, behind some who come. -/
def turnS (c : List Int) : List Nat → List Int × Int → List Int × Int
  | [], s => s
  | i :: L, s => turnS c L (s.1.set i (min (c.getD i 0) s.2), s.2 - min (c.getD i 0) s.2)
theorem turnS_snoc (c : List Int) : ∀ (L : List Nat) (i : Nat) (s : List Int × Int), turnS c (L ++ [i]) s = ((turnS c L s).1.set i (min (c.getD i 0) (turnS c L s).2), (turnS c L s).2 - min (c.getD i 0) (turnS c L s).2)
  | [], i, s => rfl
  | j :: L, i, s => turnS_snoc c L i _
theorem turnS_len (c : List Int) : ∀ (L : List Nat) (s : List Int × Int), (turnS c L s).1.length = s.1.length
  | [], s => rfl
  | j :: L, s => (turnS_len c L _).trans List.length_set
theorem turnS_bd {c : List Int} (hc : ∀ x ∈ c, 0 ≤ x) : ∀ (L : List Nat) (s : List Int × Int), (∀ i ∈ L, i < c.length) → 0 ≤ s.2 → 0 ≤ (turnS c L s).2 ∧ (turnS c L s).2 ≤ s.2
  | [], s, _, h => ⟨h, Int.le_refl _⟩
  | j :: L, s, hl, h => by
    have hj := hc _ (mem_getD (hl j (by simp)))
    have ih := turnS_bd hc L (s.1.set j (min (c.getD j 0) s.2), s.2 - min (c.getD j 0) s.2) (fun i hi => hl i (by simp [hi])) (by simp only; omega)
    simp only [turnS]
    simp only at ih
    omega

/-- A list that is an order of so many. -/
def okO (n : Nat) (l : List Int) : Prop := ∃ L : List Nat, l = L.map (fun (i : Nat) => (i : Int)) ∧ L.length = n ∧ L.Nodup ∧ ∀ i ∈ L, i < n

theorem strict_ge : ∀ (l : List Int) (b : Int), l.Pairwise (· < ·) → (∀ x ∈ l, b ≤ x) → ∀ i (h : i < l.length), b + i ≤ l[i]
  | x :: l, b, hp, hb, 0, _ => by have := hb x (by simp); simp; omega
  | x :: l, b, hp, hb, i + 1, h => by
    rw [List.pairwise_cons] at hp
    have hx := hb x (by simp)
    have := strict_ge l (b + 1) hp.2 (fun y hy => by have := hp.1 y hy; omega) i (by simpa using h)
    simp
    omega
theorem strict_le : ∀ (l : List Int) (t : Int), l.Pairwise (· < ·) → (∀ x ∈ l, x < t) → ∀ i (h : i < l.length), l[i] + (l.length - i : Nat) ≤ t
  | x :: l, t, hp, ht, 0, _ => by
    rw [List.pairwise_cons] at hp
    by_cases hl : l = []
    · subst hl; have := ht x (by simp); simp; omega
    · have h0 : 0 < l.length := List.length_pos_iff.2 hl
      have h1 := strict_le l t hp.2 (fun y hy => ht y (by simp [hy])) 0 h0
      have h2 := hp.1 l[0] (List.getElem_mem h0)
      simp at h1 ⊢
      omega
  | x :: l, t, hp, ht, i + 1, h => by
    rw [List.pairwise_cons] at hp
    have := strict_le l t hp.2 (fun y hy => ht y (by simp [hy])) i (by simpa using h)
    simp at h this ⊢
    omega
/-- Sorted, an order is 0, 1, .. -/
theorem sorted_range {l s : List Int} (hp : s.Perm l) (hs : s.Pairwise (· ≤ ·)) {n : Nat} (h : okO n l) : s.length = n ∧ ∀ i (hi : i < s.length), s[i] = i := by
  obtain ⟨L, rfl, hl, hn, hb⟩ := h
  have hlen : s.length = n := by rw [hp.length_eq, List.length_map, hl]
  have hnd : s.Nodup := hp.nodup_iff.2 (by
    rw [List.nodup_iff_pairwise_ne, List.pairwise_map]
    exact hn.imp (fun h e => h (by omega)))
  have hst : s.Pairwise (· < ·) := by
    have := hs.and (List.nodup_iff_pairwise_ne.1 hnd)
    exact this.imp (fun h => by omega)
  have hmem : ∀ x ∈ s, 0 ≤ x ∧ x < n := fun x hx => by
    obtain ⟨i, hi, rfl⟩ := List.mem_map.1 (hp.mem_iff.1 hx)
    have := hb i hi
    omega
  refine ⟨hlen, fun i hi => ?_⟩
  have h1 := strict_ge s 0 hst (fun x hx => (hmem x hx).1) i hi
  have h2 := strict_le s n hst (fun x hx => (hmem x hx).2) i hi
  omega
/-- What is, sorted, 0, 1, .. is an order. -/
theorem range_order {l s : List Int} (hp : s.Perm l) (h : ∀ i (hi : i < s.length), s[i] = i) : okO l.length l := by
  have hs : s = (List.range s.length).map (fun (i : Nat) => (i : Int)) := by
    apply List.ext_getElem
    · simp
    · intro i h1 h2; simp [h i h1]
  have hm : ∀ x ∈ l, ∃ i : Nat, x = i ∧ i < l.length := fun x hx => by
    have h1 := hp.mem_iff.2 hx
    rw [hs] at h1
    obtain ⟨i, hi, rfl⟩ := List.mem_map.1 h1
    have := List.mem_range.1 hi
    exact ⟨i, rfl, by rw [← hp.length_eq]; exact this⟩
  refine ⟨l.map Int.toNat, ?_, by simp, ?_, fun i hi => ?_⟩
  · rw [List.map_map]
    conv => lhs; rw [← List.map_id l]
    apply List.map_congr_left
    intro x hx
    obtain ⟨i, rfl, _⟩ := hm x hx
    simp
  · have hnd : l.Nodup := hp.nodup_iff.1 (by
      rw [hs, List.nodup_iff_pairwise_ne, List.pairwise_map]
      exact List.nodup_range.imp (fun h e => h (by omega)))
    rw [List.nodup_iff_pairwise_ne, List.pairwise_map]
    refine (List.nodup_iff_pairwise_ne.1 hnd).imp_of_mem (fun {a b} ha hb h e => h ?_)
    obtain ⟨i, rfl, _⟩ := hm a ha
    obtain ⟨j, rfl, _⟩ := hm b hb
    simp at e
    omega
  · obtain ⟨x, hx, rfl⟩ := List.mem_map.1 hi
    obtain ⟨j, rfl, hj⟩ := hm x hx
    simpa using hj

end Go.Proofs.Ytaakefjblldccaa
