/- The law TankDivides. -/
import Derived.Test.YtikcpfpeoofppaaSf
import Derived.Test.YtikcpfpeoofppaaLawA
import Derived.Test.YtikcpfpeoofppaaR
import Derived.OwnWalk
namespace Go.Proofs.Ytikcpfpeoofppaa
open Go.RowKit Go.Shelf

theorem askE_zeros {t : List Int} (ht : Tvl t) : askE t [zerosL t] = 0 := by
  rw [askE_one, (tvl_iff t).2 ht, (levB_iff t (zerosL t)).2 (zeros_lev ht)]
  rfl
theorem runE_zeros {t : List Int} (ht : Tvl t) (ds : List Deed) : runE t (zerosL t) ds = if areD t.length ds then 0 else 2 := by
  unfold runE
  rw [if_pos (askE_zeros ht)]

/-- All are divided by g. -/
def DivL (g : Int) (l : List Int) : Prop := ∀ j, l.getD j 0 % g = 0
theorem DivL.set {g : Int} {l : List Int} (h : DivL g l) {k : Nat} (hk : k < l.length) {x : Int} (hx : x % g = 0) : DivL g (l.set k x) := fun j => by
  rw [getD_setI hk]
  split
  · exact hx
  · exact h j
theorem DivL.done {g : Int} {t l : List Int} {d : Deed} (ht : DivL g t) (h : DivL g l) (hl : Lev t l) (hd : IsD t.length d) : DivL g (doneL t l d) := by
  obtain ⟨o, f, k⟩ := d
  unfold IsD at hd
  simp only at hd
  have hlen := hl.1
  rcases hd with ⟨h1, rfl, h2, h3⟩ | ⟨rfl, f1, f2, h2, h3, hne⟩
  · have hk : k.toNat < l.length := by omega
    rcases h1 with rfl | rfl
    · have e : doneL t l (1, 0, k) = l.set k.toNat (t.getD k.toNat 0) := by unfold doneL; simp
      rw [e]
      exact h.set hk (ht _)
    · have e : doneL t l (2, 0, k) = l.set k.toNat 0 := by unfold doneL; simp
      rw [e]
      exact h.set hk (by simp)
  · have hk : k.toNat < l.length := by omega
    have hf : f.toNat < l.length := by omega
    have e : doneL t l (3, f, k) = pour l f.toNat k.toNat (l.getD f.toNat 0) (l.getD k.toNat 0) (min (l.getD f.toNat 0) (t.getD k.toNat 0 - l.getD k.toNat 0)) := by unfold doneL; simp
    rw [e]
    unfold pour
    have m0 : (min (l.getD f.toNat 0) (t.getD k.toNat 0 - l.getD k.toNat 0)) % g = 0 := by
      rcases Int.le_total (l.getD f.toNat 0) (t.getD k.toNat 0 - l.getD k.toNat 0) with h' | h'
      · rw [Int.min_eq_left h']; exact h _
      · rw [Int.min_eq_right h']
        exact Int.emod_eq_zero_of_dvd (Int.dvd_sub (Int.dvd_of_emod_eq_zero (ht _)) (Int.dvd_of_emod_eq_zero (h _)))
    refine (h.set hf ?_).set (by simpa using hk) ?_
    · exact Int.emod_eq_zero_of_dvd (Int.dvd_sub (Int.dvd_of_emod_eq_zero (h _)) (Int.dvd_of_emod_eq_zero m0))
    · exact Int.emod_eq_zero_of_dvd (Int.dvd_add (Int.dvd_of_emod_eq_zero (h _)) (Int.dvd_of_emod_eq_zero m0))

theorem DivL.tanks {t : List Int} (ht : Tvl t) : DivL (gcl t : Int) t := fun j => by
  by_cases hj : j < t.length
  · have h1 := gcl_dvd t _ (mem_getD hj)
    have h2 := ht.holds _ (mem_getD hj)
    obtain ⟨y, hy⟩ := Int.eq_ofNat_of_zero_le (show 0 ≤ t.getD j 0 by omega)
    rw [hy] at h1 ⊢
    exact Int.emod_eq_zero_of_dvd (Int.ofNat_dvd.2 (by simpa using h1))
  · rw [List.getD_eq_getElem?_getD, List.getElem?_eq_none (by omega)]
    simp

/-- Some tank is empty or full. -/
def EndL (t l : List Int) : Prop := ∃ j, j < t.length ∧ (l.getD j 0 = 0 ∨ l.getD j 0 = t.getD j 0)
theorem EndL.done {t l : List Int} {d : Deed} (ht : Tvl t) (hl : Lev t l) (hd : IsD t.length d) : EndL t (doneL t l d) := by
  obtain ⟨o, f, k⟩ := d
  unfold IsD at hd
  simp only at hd
  have hlen := hl.1
  rcases hd with ⟨h1, rfl, h2, h3⟩ | ⟨rfl, f1, f2, h2, h3, hne⟩
  · have hk : k.toNat < l.length := by omega
    rcases h1 with rfl | rfl
    · have e : doneL t l (1, 0, k) = l.set k.toNat (t.getD k.toNat 0) := by unfold doneL; simp
      rw [e]
      exact ⟨k.toNat, by omega, .inr (by rw [getD_setI hk, if_pos rfl])⟩
    · have e : doneL t l (2, 0, k) = l.set k.toNat 0 := by unfold doneL; simp
      rw [e]
      exact ⟨k.toNat, by omega, .inl (by rw [getD_setI hk, if_pos rfl])⟩
  · have hk : k.toNat < l.length := by omega
    have hf : f.toNat < l.length := by omega
    have hfk : f.toNat ≠ k.toNat := by omega
    have e : doneL t l (3, f, k) = pour l f.toNat k.toNat (l.getD f.toNat 0) (l.getD k.toNat 0) (min (l.getD f.toNat 0) (t.getD k.toNat 0 - l.getD k.toNat 0)) := by unfold doneL; simp
    rw [e]
    unfold pour
    have hk2 : k.toNat < (l.set f.toNat (l.getD f.toNat 0 - min (l.getD f.toNat 0) (t.getD k.toNat 0 - l.getD k.toNat 0))).length := by simpa using hk
    rcases Int.le_total (l.getD f.toNat 0) (t.getD k.toNat 0 - l.getD k.toNat 0) with h' | h'
    · exact ⟨f.toNat, by omega, .inl (by rw [getD_setI hk2, if_neg (Ne.symm hfk), getD_setI hf, if_pos rfl, Int.min_eq_left h']; omega)⟩
    · exact ⟨k.toNat, by omega, .inr (by rw [getD_setI hk2, if_pos rfl, Int.min_eq_right h']; omega)⟩

/-- What deeds from empty tanks lead to. -/
theorem reached {t : List Int} {ds : List Deed} (ht : Tvl t) (hd : areD t.length ds = true) : Lev t (ds.foldl (doneL t) (zerosL t)) ∧ DivL (gcl t : Int) (ds.foldl (doneL t) (zerosL t)) ∧ EndL t (ds.foldl (doneL t) (zerosL t)) := by
  have hz := zeros_lev ht
  have key : ∀ k, k ≤ ds.length → Lev t (lvK t (zerosL t) ds k) ∧ DivL (gcl t : Int) (lvK t (zerosL t) ds k) ∧ EndL t (lvK t (zerosL t) ds k) := by
    intro k
    induction k with
    | zero =>
      intro _
      rw [lvK_zero]
      exact ⟨hz, fun j => by rw [zeros_getD]; simp, ⟨0, by have := ht.lo; omega, .inl (zeros_getD t 0)⟩⟩
    | succ k ih =>
      intro hk
      obtain ⟨h1, h2, _⟩ := ih (by omega)
      rw [lvK_succ t _ ds (by omega)]
      have hdk := isD_at hd (show k < ds.length by omega)
      exact ⟨doneL_lev ht h1 hdk, (DivL.tanks ht).done h2 h1 hdk, EndL.done ht h1 hdk⟩
  have := key ds.length (Nat.le_refl _)
  rwa [lvK_full] at this

theorem areD_isD {n : Nat} {ds : List Deed} (h : areD n ds = true) : ∀ d ∈ ds, IsD n d := ((areD_iff n ds).1 h).2

theorem can_reached {t : List Int} {ds : List Deed} (ht : Tvl t) (hd : areD t.length ds = true) {k : Nat} (hk : k < t.length) :
    canV t k ((ds.foldl (doneL t) (zerosL t)).getD k 0) = true ∧ canE t k ((ds.foldl (doneL t) (zerosL t)).getD k 0) = 0 := by
  obtain ⟨hl, _, _⟩ := reached ht hd
  have hb := hl.bd ht k hk
  have ha : amtE t k ((ds.foldl (doneL t) (zerosL t)).getD k 0) = 0 := by
    unfold amtE
    rw [(tvl_iff t).2 ht, if_pos rfl, (betw_iff 0 (k : Int) _).2 ⟨by omega, by omega⟩, (betw_iff 0 _ 12).2 ⟨hb.1, hb.2⟩]
    rfl
  have hw : (way t (zerosL t) (amtG k ((ds.foldl (doneL t) (zerosL t)).getD k 0))).isSome = true := by
    cases hn : way t (zerosL t) (amtG k ((ds.foldl (doneL t) (zerosL t)).getD k 0)) with
    | some _ => rfl
    | none =>
      have := way_none ht (zeros_lev ht) hn (areD_isD hd)
      simp [amtG] at this
  have he : dE t k ((ds.foldl (doneL t) (zerosL t)).getD k 0) = 0 := by
    unfold dE
    rw [if_pos ha, hw]
    rfl
  unfold canV canE
  rw [he]
  exact ⟨rfl, rfl⟩

theorem back_reached {t : List Int} {ds : List Deed} (ht : Tvl t) (hd : areD t.length ds = true) : backV t (ds.foldl (doneL t) (zerosL t)) = true ∧ askE t [ds.foldl (doneL t) (zerosL t)] = 0 := by
  obtain ⟨hl, _, _⟩ := reached ht hd
  have ha : askE t [ds.foldl (doneL t) (zerosL t)] = 0 := by
    rw [askE_one, (tvl_iff t).2 ht, (levB_iff t _).2 hl]
    rfl
  refine ⟨?_, ha⟩
  unfold backV
  rw [if_pos ha]
  cases hn : way t (zerosL t) (eqG (ds.foldl (doneL t) (zerosL t))) with
  | some _ => rfl
  | none =>
    have := way_none ht (zeros_lev ht) hn (areD_isD hd)
    simp [eqG] at this

/-- Whether one of the first k is empty or full. -/
def endK (t l : List Int) (k : Nat) : Bool := (List.range k).any fun j => l.getD j 0 == 0 || l.getD j 0 == t.getD j 0
theorem endK_succ (t l : List Int) (k : Nat) : endK t l (k + 1) = (endK t l k || (l.getD k 0 == 0 || l.getD k 0 == t.getD k 0)) := by
  unfold endK
  rw [List.range_succ, List.any_append]
  simp
theorem endK_end {t l : List Int} (h : EndL t l) : endK t l t.length = true := by
  obtain ⟨j, hj, hc⟩ := h
  unfold endK
  rw [List.any_eq_true]
  refine ⟨j, List.mem_range.2 hj, ?_⟩
  rw [Bool.or_eq_true, beq_iff_eq, beq_iff_eq]
  exact hc

end Go.Proofs.Ytikcpfpeoofppaa
