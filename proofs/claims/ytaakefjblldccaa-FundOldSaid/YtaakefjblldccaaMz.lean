/- Plain mathematics: the mean over all orders shares the estate. -/
import Derived.Test.YtaakefjblldccaaMt
import Derived.Test.YtaakefjblldccaaKb
import Derived.Test.YtaakefjblldccaaTt
namespace Go.Proofs.Ytaakefjblldccaa
open Go.RowKit

theorem sumI_perm {a b : List Int} (h : a.Perm b) : sumI a = sumI b := by
  induction h with
  | nil => rfl
  | cons x _ ih => simp only [sumI, ih]
  | swap x y l => simp only [sumI]; omega
  | trans _ _ h1 h2 => exact h1.trans h2
theorem sumI_sumf (l : List Int) : sumI l = sumf id l := by
  induction l with
  | nil => rfl
  | cons x l ih => simp only [sumI, sumf, ih, id]
theorem sumI_range (c : List Int) : ∀ k, k ≤ c.length → sumI ((List.range k).map fun i => c.getD i 0) = tot (c.take k)
  | 0, _ => by simp [sumI, tot]
  | k + 1, h => by
    rw [List.range_succ, List.map_append, sumI_append, sumI_range c k (by omega), tot_snoc (by omega)]
    simp [sumI]
theorem sumI_all (c : List Int) : sumI ((List.range c.length).map fun i => c.getD i 0) = tot c := by
  rw [sumI_range c c.length (Nat.le_refl _), List.take_length]
theorem sumI_self (c : List Int) : sumI c = tot c := by
  rw [← sumI_all c]
  congr 1
  apply List.ext_getElem
  · simp
  · intro i h1 h2
    simp [List.getD_eq_getElem?_getD, h1]
/-- What is left behind some who come in turn. -/
theorem turnS_left {c : List Int} (hc : ∀ x ∈ c, 0 ≤ x) : ∀ (L : List Nat) (s : List Int × Int), (∀ i ∈ L, i < c.length) → 0 ≤ s.2 → (turnS c L s).2 = max (s.2 - sumI (L.map fun j => c.getD j 0)) 0
  | [], s, _, h => by simp only [turnS, List.map_nil, sumI]; omega
  | j :: L, s, hl, h => by
    have hj := hc _ (mem_getD (hl j (by simp)))
    simp only [turnS, List.map_cons, sumI]
    rw [turnS_left hc L _ (fun i hi => hl i (by simp [hi])) (by simp only; omega)]
    have hs : 0 ≤ sumI (L.map fun j => c.getD j 0) := by
      have : ∀ M : List Nat, (∀ i ∈ M, i < c.length) → 0 ≤ sumI (M.map fun j => c.getD j 0) := fun M => by
        induction M with
        | nil => intro _; exact Int.le_refl _
        | cons x M ih =>
          intro hM
          have h1 := ih (fun i hi => hM i (by simp [hi]))
          have h2 := hc _ (mem_getD (hM x (by simp)))
          simp only [List.map_cons, sumI]
          omega
      exact this L (fun i hi => hl i (by simp [hi]))
    simp only
    omega
theorem sumI_set : ∀ (l : List Int) (j : Nat) (x : Int), j < l.length → sumI (l.set j x) = sumI l - l.getD j 0 + x
  | [], j, x, h => by simp at h
  | y :: l, 0, x, _ => by simp only [List.set_cons_zero, sumI, List.getD_cons_zero]; omega
  | y :: l, j + 1, x, h => by
    have ih := sumI_set l j x (by simpa using h)
    simp only [List.set_cons_succ, sumI, List.getD_cons_succ, ih]
    omega
theorem turnS_sum (c : List Int) : ∀ (L : List Nat) (s : List Int × Int), L.Nodup → (∀ i ∈ L, i < s.1.length ∧ s.1.getD i 0 = 0) → sumI (turnS c L s).1 + (turnS c L s).2 = sumI s.1 + s.2
  | [], s, _, _ => rfl
  | j :: L, s, hn, hz => by
    obtain ⟨hj, h0⟩ := hz j (by simp)
    rw [List.nodup_cons] at hn
    simp only [turnS]
    rw [turnS_sum c L _ hn.2 (fun i hi => by
      have hne : j ≠ i := fun h => hn.1 (h ▸ hi)
      obtain ⟨h1, h2⟩ := hz i (by simp [hi])
      refine ⟨by simpa using h1, ?_⟩
      simp only [List.getD_eq_getElem?_getD, List.getElem?_set, if_neg hne] at h2 ⊢
      exact h2)]
    simp only
    rw [sumI_set _ _ _ hj, h0]
    omega
theorem zst_zero (c : List Int) (e : Int) (i : Nat) : (zst c e).1.getD i 0 = 0 := by
  simp only [zst, List.getD_eq_getElem?_getD]
  by_cases h : i < c.length
  · simp [h]
  · simp [h]
theorem sumI_zeros (n : Nat) : sumI (List.replicate n 0) = 0 := by
  induction n with
  | zero => rfl
  | succ n ih => rw [List.replicate_succ, sumI, ih]; rfl
theorem c_nonneg {c : List Int} (hc : ∀ x ∈ c, 0 ≤ x) (i : Nat) : 0 ≤ c.getD i 0 := by
  by_cases h : i < c.length
  · exact hc _ (mem_getD h)
  · simp [List.getD_eq_getElem?_getD, h]
/-- An order of all. -/
def OrdN (n : Nat) (L : List Nat) : Prop := L.length = n ∧ L.Nodup ∧ ∀ i ∈ L, i < n
theorem ord_sum {c : List Int} {L : List Nat} (h : OrdN c.length L) : sumI (L.map fun j => c.getD j 0) = tot c := by
  have hok : okO c.length (asI L) := ⟨L, rfl, h⟩
  have hp := srt_perm (asI L)
  obtain ⟨h1, h2⟩ := sorted_range hp (srt_sorted (asI L)) hok
  have e : L.map (fun j => c.getD j 0) = (asI L).map (fun x => c.getD x.toNat 0) := by simp [asI]
  have e2 : (srt (asI L)).map (fun x => c.getD x.toNat 0) = (List.range c.length).map fun i => c.getD i 0 := by
    apply List.ext_getElem
    · simp [h1]
    · intro i h3 h4
      simp only [List.getElem_map, List.getElem_range]
      rw [h2 i (by simpa using h3)]
      rfl
  rw [e, ← sumI_perm (hp.map fun x => c.getD x.toNat 0), e2, sumI_all]
theorem turn_all {c : List Int} (hc : ∀ x ∈ c, 0 ≤ x) {e : Int} (he : 0 ≤ e) (ht : e ≤ tot c) {L : List Nat} (h : OrdN c.length L) : sumI (turnS c L (zst c e)).1 = e := by
  have h1 := turnS_sum c L (zst c e) h.2.1 (fun i hi => ⟨by simp [zst]; exact h.2.2 i hi, zst_zero c e i⟩)
  have h2 := turnS_left hc L (zst c e) h.2.2 he
  rw [ord_sum h] at h2
  have h3 : sumI (zst c e).1 = 0 := sumI_zeros _
  have h4 : (zst c e).2 = e := rfl
  rw [h4] at h2 h1
  omega
theorem turn_in {c : List Int} (hc : ∀ x ∈ c, 0 ≤ x) {e : Int} (he : 0 ≤ e) {L : List Nat} (h : OrdN c.length L) (i : Nat) : 0 ≤ (turnS c L (zst c e)).1.getD i 0 ∧ (turnS c L (zst c e)).1.getD i 0 ≤ c.getD i 0 :=
  turnS_in hc L (zst c e) h.2.2 he (fun i => by rw [zst_zero]; exact ⟨Int.le_refl _, c_nonneg hc i⟩) i
/-- A member of a list of numbers, and the sum. -/
theorem sumI_at : ∀ (l d : List Int) (i : Nat), l.length = d.length → (∀ i, 0 ≤ l.getD i 0 ∧ l.getD i 0 ≤ d.getD i 0) → l.getD i 0 ≤ sumI l ∧ sumI l - l.getD i 0 ≤ sumI d - d.getD i 0
  | [], [], i, _, _ => by simp [sumI]
  | [], _ :: _, _, h, _ => by simp at h
  | _ :: _, [], _, h, _ => by simp at h
  | x :: l, y :: d, 0, hl, h => by
    have h0 := h 0
    have ih := sumI_at l d l.length (by simpa using hl) (fun i => by have := h (i + 1); simpa using this)
    rw [show l.getD l.length 0 = 0 by simp [List.getD_eq_getElem?_getD], show d.getD l.length 0 = 0 by
      have : l.length = d.length := by simpa using hl
      simp [List.getD_eq_getElem?_getD, this]] at ih
    simp only [List.getD_cons_zero, sumI] at h0 ⊢
    omega
  | x :: l, y :: d, i + 1, hl, h => by
    have h0 := h 0
    have ih := sumI_at l d i (by simpa using hl) (fun i => by have := h (i + 1); simpa using this)
    simp only [List.getD_cons_zero] at h0
    simp only [List.getD_cons_succ, sumI]
    omega
theorem turn_lo {c : List Int} (hc : ∀ x ∈ c, 0 ≤ x) {e : Int} (he : 0 ≤ e) (ht : e ≤ tot c) {L : List Nat} (h : OrdN c.length L) (i : Nat) :
    max (e - (tot c - c.getD i 0)) 0 ≤ (turnS c L (zst c e)).1.getD i 0 ∧ (turnS c L (zst c e)).1.getD i 0 ≤ min (c.getD i 0) e := by
  have h1 := turn_in hc he h
  have h2 := turn_all hc he ht h
  have h3 := sumI_at (turnS c L (zst c e)).1 c i (by rw [turnS_len]; simp [zst]) h1
  rw [h2, sumI_self] at h3
  have := h1 i
  omega
/-- Sums over orders. -/
theorem sumT_bd {c : List Int} {e : Int} {i : Nat} {a b : Int} : ∀ Ls : List (List Nat), (∀ L ∈ Ls, a ≤ (turnS c L (zst c e)).1.getD i 0 ∧ (turnS c L (zst c e)).1.getD i 0 ≤ b) → a * Ls.length ≤ sumT c e i Ls ∧ sumT c e i Ls ≤ b * Ls.length
  | [], _ => by simp [sumT, sumI]
  | L :: Ls, h => by
    have h1 := h L (by simp)
    have ih := sumT_bd (a := a) (b := b) Ls (fun M hM => h M (by simp [hM]))
    unfold sumT at ih ⊢
    simp only [List.map_cons, sumI, List.length_cons]
    rw [show ((Ls.length + 1 : Nat) : Int) = (Ls.length : Int) + 1 by omega, Int.mul_add, Int.mul_add]
    omega
theorem sumI_map_add (f g : Nat → Int) : ∀ l : List Nat, sumI (l.map fun i => f i + g i) = sumI (l.map f) + sumI (l.map g)
  | [] => rfl
  | x :: l => by
    have ih := sumI_map_add f g l
    simp only [List.map_cons, sumI, ih]
    omega
theorem totL_sum {c : List Int} {e : Int} : ∀ Ls : List (List Nat), (∀ L ∈ Ls, sumI (turnS c L (zst c e)).1 = e) → sumI (totL c e Ls) = e * Ls.length
  | [], _ => by rw [totL_nil, sumI_zeros]; simp
  | L :: Ls, h => by
    have ih := totL_sum Ls (fun M hM => h M (by simp [hM]))
    have h1 := h L (by simp)
    have h2 : totL c e (L :: Ls) = (List.range c.length).map fun i => (turnS c L (zst c e)).1.getD i 0 + sumT c e i Ls := rfl
    rw [h2, sumI_map_add]
    have h3 : sumI ((List.range c.length).map fun i => sumT c e i Ls) = e * Ls.length := ih
    have hl : (turnS c L (zst c e)).1.length = c.length := by rw [turnS_len]; simp [zst]
    have h4 := sumI_all (turnS c L (zst c e)).1
    rw [hl] at h4
    rw [h4, ← sumI_self, h1, h3]
    rw [show ((L :: Ls).length : Int) = (Ls.length : Int) + 1 by simp, Int.mul_add]
    omega
theorem orders_ordN {n : Nat} {L : List Nat} (h : L ∈ orders n) : OrdN n L := by
  obtain ⟨h1, h2, h3, _⟩ := orders_ok h
  exact ⟨h1, h2, h3⟩
/-- The means, as what they stand for. -/
theorem midL_eq (c : List Int) (e : Int) : midL c e = (totL c e (orders c.length)).map fun x => red x (fct c.length) := by
  unfold midL totL
  rw [List.map_map]
  rfl
theorem mid_at {c : List Int} {e : Int} {i : Nat} (hi : i < c.length) : (midL c e).getD i (0, 0) = red (sumT c e i (orders c.length)) (fct c.length) := by
  simp [midL, List.getD_eq_getElem?_getD, hi, red]
theorem mid_len (c : List Int) (e : Int) : (midL c e).length = c.length := by simp [midL]
theorem ord_len (n : Nat) : (orders n).length = fct n := by rw [orders, pF_len]
structure MidF (c : List Int) (e : Int) (i : Nat) (r : Rat2) : Prop where
  lo : max (e - (tot c - c.getD i 0)) 0 * r.2 ≤ r.1
  hi : r.1 ≤ min (c.getD i 0) e * r.2
  d1 : 1 ≤ r.2
  d2 : r.2 ≤ 5040
theorem mid_facts {c : List Int} {e : Int} (hc : Cvl c) (h7 : c.length ≤ 7) (he : 0 ≤ e) (ht : e ≤ tot c) {i : Nat} (hi : i < c.length) : MidF c e i ((midL c e).getD i (0, 0)) := by
  have hb := sumT_bd (c := c) (e := e) (i := i) (orders c.length) (fun L hL => turn_lo (fun x hx => (hc.holds x hx).1) he ht (orders_ordN hL) i)
  rw [ord_len] at hb
  have f1 := fct_pos c.length
  have f2 := fct_le h7
  obtain ⟨g, hg, h1, h2, h3, _⟩ := red_spec (sumT c e i (orders c.length)) (fct c.length) (by omega)
  rw [mid_at hi]
  generalize red (sumT c e i (orders c.length)) (fct c.length) = r at *
  rw [h1, h2] at hb
  have hd : r.2 ≤ g * r.2 := by
    have := Int.mul_le_mul_of_nonneg_right hg (show 0 ≤ r.2 by omega)
    omega
  refine ⟨?_, ?_, h3, by omega⟩
  · have h : g * (max (e - (tot c - c.getD i 0)) 0 * r.2) ≤ g * r.1 := by rw [Int.mul_left_comm]; exact hb.1
    exact Int.le_of_mul_le_mul_left (a := g) h (by omega)
  · have h : g * r.1 ≤ g * (min (c.getD i 0) e * r.2) := by rw [Int.mul_left_comm g]; exact hb.2
    exact Int.le_of_mul_le_mul_left (a := g) h (by omega)
theorem mid_okv {c : List Int} {e : Int} (hc : Cvl c) (h7 : c.length ≤ 7) (he : 0 ≤ e) (ht : e ≤ tot c) : Okv c (midL c e) := by
  refine ⟨mid_len c e, fun k hk => ?_⟩
  have h := mid_facts hc h7 he ht hk
  have hd := h.d1
  have h1 : 0 ≤ max (e - (tot c - c.getD k 0)) 0 * ((midL c e).getD k (0, 0)).2 := Int.mul_nonneg (by omega) (by omega)
  have h2 : min (c.getD k 0) e * ((midL c e).getD k (0, 0)).2 ≤ c.getD k 0 * ((midL c e).getD k (0, 0)).2 := Int.mul_le_mul_of_nonneg_right (by omega) (by omega)
  have := h.lo
  have := h.hi
  have := h.d2
  omega
theorem mid_sV {c : List Int} {e : Int} (ha : askE c e = 0) (h7 : c.length ≤ 7) : sV c e (midL c e) = true ∧ awE c e (midL c e) = 0 := by
  obtain ⟨hc, he, ht⟩ := askE_ok2 ha
  have ho := mid_okv hc h7 he ht
  have h3 : awE c e (midL c e) = 0 := by unfold awE; rw [if_pos ha, if_pos (okv_ar hc ho)]
  refine ⟨?_, h3⟩
  have hadd : addUp (midL c e) e = true := by
    have f1 := fct_pos c.length
    have hs := totL_sum (c := c) (e := e) (orders c.length) (fun L hL => turn_all (fun x hx => (hc.holds x hx).1) he ht (orders_ordN hL))
    rw [ord_len, sumI_sumf] at hs
    have := sumA_frac id (Q := fct c.length) (by omega) (totL c e (orders c.length)) 0 1 0 (by simp)
    simp only [id] at this
    unfold addUp sumA
    rw [midL_eq, beq_iff_eq]
    generalize ((totL c e (orders c.length)).map fun x => red x (fct c.length)).foldl (fun s x => (s.1 * x.2 + x.1 * s.2, s.2 * x.2)) ((0 : Int), (1 : Int)) = r at *
    rw [hs, Int.zero_add, Int.mul_right_comm] at this
    exact cancel_r (by omega) this
  unfold sV shB
  rw [decide_eq_true h3, okv_in ho, hadd]
  rfl
theorem turn_cvl {c : List Int} {e : Int} (hc : Cvl c) (he : 0 ≤ e) {L : List Nat} (h : OrdN c.length L) : Cvl (turnS c L (zst c e)).1 := by
  have hl : (turnS c L (zst c e)).1.length = c.length := by rw [turnS_len]; simp [zst]
  refine ⟨by rw [hl]; exact hc.lo, by rw [hl]; exact hc.hi, fun x hx => ?_⟩
  obtain ⟨k, hk, rfl⟩ := List.getElem_of_mem hx
  have h1 := turn_in (fun x hx => (hc.holds x hx).1) he h k
  rw [hl] at hk
  have h2 := hc.holds _ (mem_getD hk)
  rw [show (turnS c L (zst c e)).1.getD k 0 = (turnS c L (zst c e)).1[k] by simp [List.getD_eq_getElem?_getD, hl, hk]] at h1
  omega

end Go.Proofs.Ytaakefjblldccaa
