/- Plain law of TankFewest and TopTank. -/
import Derived.Test.YtikcpfpeoofppaaLawG
namespace Go.Proofs.Ytikcpfpeoofppaa
open Go.RowKit Go.Shelf

theorem dE_zero {t : List Int} {i n : Int} (h : dE t i n = 0) : amtE t i n = 0 ∧ ∃ ds, way t (zerosL t) (amtG i n) = some ds ∧ dL t i n = ds := by
  unfold dE at h
  by_cases ha : amtE t i n = 0
  · rw [if_pos ha] at h
    cases hw : way t (zerosL t) (amtG i n) with
    | none => rw [hw] at h; cases h
    | some ds =>
      refine ⟨ha, ds, rfl, ?_⟩
      unfold dL
      rw [if_pos ha, hw]
      rfl
  · rw [if_neg ha] at h
    exact absurd h ha

/-- The fewest deeds to an amount: deeds of the tanks, at most 200, that lead there. -/
theorem dL_good {t : List Int} {i n : Int} (h : dE t i n = 0) : Tvl t ∧ 0 ≤ i ∧ i < t.length ∧ 0 ≤ n ∧ n ≤ 12 ∧ areD t.length (dL t i n) = true ∧ ((dL t i n).foldl (doneL t) (zerosL t)).getD i.toNat 0 = n := by
  obtain ⟨ha, ds, hw, hd⟩ := dE_zero h
  obtain ⟨ht, hi0, hi1, hn0, hn1⟩ := amtE_zero ha
  obtain ⟨h1, h2⟩ := way_some ht (zeros_lev ht) hw
  have hx : (ds.foldl (doneL t) (zerosL t)).getD i.toNat 0 = n := by
    unfold amtG at h1
    exact beq_iff_eq.1 h1
  have hs := way_iff (n := n) ht ⟨hi0, hi1⟩ hn0
  rw [hw] at hs
  have hs2 := hs.symm
  simp only [Option.isSome_some, Bool.and_eq_true, beq_iff_eq, decide_eq_true_iff] at hs2
  obtain ⟨m, rfl⟩ := Int.eq_ofNat_of_zero_le hn0
  obtain ⟨qs, k1, k2, k3⟩ := can_have (i := i.toNat) (n := m) ht (by omega) hs2.2 (Int.ofNat_dvd.1 (Int.dvd_of_emod_eq_zero hs2.1))
  have k4 : (qs.foldl (doneL t) (zerosL t)).getD i.toNat 0 = (m : Int) := k3
  have hl := way_least ht (zeros_lev ht) hw k1 (by unfold amtG; exact beq_iff_eq.2 k4)
  rw [hd]
  exact ⟨ht, hi0, hi1, hn0, hn1, (areD_iff _ _).2 ⟨by omega, h2⟩, hx⟩

theorem dL_least {t : List Int} {i n : Int} {qs : List Deed} (h : dE t i n = 0) (hq : ∀ d ∈ qs, IsD t.length d) (hx : (qs.foldl (doneL t) (zerosL t)).getD i.toNat 0 = n) : (dL t i n).length ≤ qs.length := by
  obtain ⟨ha, ds, hw, hd⟩ := dE_zero h
  have ht := (amtE_zero ha).1
  rw [hd]
  exact way_least ht (zeros_lev ht) hw hq (by unfold amtG; exact beq_iff_eq.2 hx)

theorem dE_none {t : List Int} {i n : Int} {qs : List Deed} (ht : Tvl t) (hi : 0 ≤ i ∧ i < t.length) (h : dE t i n ≠ 0) (hq : ∀ d ∈ qs, IsD t.length d) : (qs.foldl (doneL t) (zerosL t)).getD i.toNat 0 ≠ n := by
  intro hx
  obtain ⟨h3, _⟩ := fold_div ht qs (zerosL t) (zeros_lev ht) (fun j => by rw [zeros_getD]; simp) hq
  have hb := h3.bd ht i.toNat (by omega)
  rw [hx] at hb
  have ha : amtE t i n = 0 := by
    unfold amtE
    rw [(tvl_iff t).2 ht, if_pos rfl, (betw_iff 0 i _).2 ⟨hi.1, by omega⟩, (betw_iff 0 n 12).2 hb]
    rfl
  unfold dE at h
  rw [if_pos ha] at h
  cases hw : way t (zerosL t) (amtG i n) with
  | some _ => rw [hw] at h; exact h rfl
  | none =>
    have := way_none ht (zeros_lev ht) hw hq
    unfold amtG at this
    rw [hx] at this
    simp at this

theorem dL_nil {t : List Int} {i n : Int} (h : dE t i n ≠ 0) : dL t i n = [] := by
  unfold dL
  by_cases ha : amtE t i n = 0
  · rw [if_pos ha]
    unfold dE at h
    rw [if_pos ha] at h
    cases hw : way t (zerosL t) (amtG i n) with
    | some _ => rw [hw] at h; exact absurd rfl h
    | none => rfl
  · rw [if_neg ha]

end Go.Proofs.Ytikcpfpeoofppaa
