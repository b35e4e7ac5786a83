/- Texts of this claim, laid together: Pt. -/
import Derived.Test.YtdfkaijeppdhaaaGreatDoorZHq02
import Derived.Laws.MakeOwn

/- How a table lies in memory: a row of slices, each of cells; filled from the end. -/
namespace Go.Proofs.YtdfkaijeppdhaaaGreatDoor
open Go.RowKit
theorem setCell_cells {W : World} {b j : Nat} {A : Array Value} {T : TypeId} {fr : Nat × Nat} {v : Value} (h : W.heap[b]? = some (.cells A T fr)) : (W.setCell ⟨b, j, none⟩ v).heap[b]? = some (.cells (A.setIfInBounds j v) T fr) := by
  obtain ⟨hlt, hk⟩ := Array.getElem?_eq_some_iff.1 h
  show (W.heap.modify b _)[b]? = _
  rw [Array.getElem?_eq_getElem (by rw [Array.size_modify]; exact hlt), Array.getElem_modify_self, hk]
  simp
theorem setCell_away {W : World} {b j k : Nat} {v : Value} (h : k ≠ b) : (W.setCell ⟨b, j, none⟩ v).heap[k]? = W.heap[k]? := Below.heap_setCell _ _ _ _ h

/-- A table of n + 1 rows with m + 1 entries of E cells each, in block O; row i in block G i, the rows from lo on; of row lo the entries from kk on; OK: what an entry's cell holds. -/
structure Tab (TO TG : TypeId) (E base O n m : Nat) (OK : Nat → Nat → Nat → Value → Prop) (G : Nat → Nat) (lo kk : Nat) (w : World) : Prop where
  rows : ∃ A : Array Value, w.heap[O]? = some (.cells A TO (0, 0)) ∧ A.size = n + 1 ∧ ∀ i, lo ≤ i → i ≤ n → A[i]? = some (.slice (some ⟨G i, 0, none⟩) (m + 1) (m + 1))
  row : ∀ i, lo ≤ i → i ≤ n → ∃ A : Array Value, w.heap[G i]? = some (.cells A TG (0, 0)) ∧ A.size = (m + 1) * E ∧ ∀ k e, k ≤ m → e < E → (lo < i ∨ kk ≤ k) → ∃ v, A[k * E + e]? = some v ∧ OK i k e v
  sep : ∀ i, lo ≤ i → i ≤ n → G i ≠ O ∧ base ≤ G i
  inj : ∀ i j, lo ≤ i → i ≤ n → lo ≤ j → j ≤ n → i ≠ j → G i ≠ G j
  top : base ≤ O
section
variable {TO TG : TypeId} {E base O n m : Nat} {OK : Nat → Nat → Nat → Value → Prop} {G : Nat → Nat} {lo kk : Nat} {w : World}
theorem Tab.lt (h : Tab TO TG E base O n m OK G lo kk w) : O < w.heap.size := by
  obtain ⟨A, h1, _⟩ := h.rows
  exact (Array.getElem?_eq_some_iff.1 h1).1
theorem Tab.ltG (h : Tab TO TG E base O n m OK G lo kk w) {i : Nat} (h1 : lo ≤ i) (h2 : i ≤ n) : G i < w.heap.size := by
  obtain ⟨A, h3, _⟩ := h.row i h1 h2
  exact (Array.getElem?_eq_some_iff.1 h3).1
theorem Tab.keep {w' : World} (h : Tab TO TG E base O n m OK G lo kk w) (hO : w'.heap[O]? = w.heap[O]?) (hG : ∀ i, lo ≤ i → i ≤ n → w'.heap[G i]? = w.heap[G i]?) : Tab TO TG E base O n m OK G lo kk w' := by
  refine ⟨?_, fun i h1 h2 => ?_, h.sep, h.inj, h.top⟩
  · obtain ⟨A, h1, h2⟩ := h.rows
    exact ⟨A, hO.trans h1, h2⟩
  · obtain ⟨A, h3, h4⟩ := h.row i h1 h2
    exact ⟨A, (hG i h1 h2).trans h3, h4⟩
theorem Tab.below {w' : World} (h : Tab TO TG E base O n m OK G lo kk w) (hb : Below w.heap.size w w') : Tab TO TG E base O n m OK G lo kk w' :=
  h.keep (hb.block _ h.lt) fun _ h1 h2 => hb.block _ (h.ltG h1 h2)
/-- A block that is no row of it turns. -/
theorem Tab.others {w' : World} (h : Tab TO TG E base O n m OK G lo kk w) {S : Nat → Prop} (hS : ∀ k, S k → k < w.heap.size → ∃ A T fr, w.heap[k]? = some (.cells A T fr) ∧ T ≠ TO ∧ T ≠ TG) (hk : ∀ k, k < w.heap.size → ¬ S k → w'.heap[k]? = w.heap[k]?) : Tab TO TG E base O n m OK G lo kk w' := by
  refine h.keep (hk _ h.lt fun hs => ?_) fun i h1 h2 => hk _ (h.ltG h1 h2) fun hs => ?_
  · obtain ⟨A, T, fr, h3, h4, h5⟩ := hS _ hs h.lt
    obtain ⟨B, h6, _⟩ := h.rows
    rw [h6] at h3
    simp only [Option.some.injEq, Obj.cells.injEq] at h3
    exact h4 h3.2.1.symm
  · obtain ⟨A, T, fr, h3, h4, h5⟩ := hS _ hs (h.ltG h1 h2)
    obtain ⟨B, h6, _⟩ := h.row i h1 h2
    rw [h6] at h3
    simp only [Option.some.injEq, Obj.cells.injEq] at h3
    exact h5 h3.2.1.symm
theorem Tab.look (h : Tab TO TG E base O n m OK G lo kk w) {i : Nat} (h1 : lo ≤ i) (h2 : i ≤ n) : w.cell? ⟨O, i, none⟩ = some (.slice (some ⟨G i, 0, none⟩) (m + 1) (m + 1)) := by
  obtain ⟨A, h3, _, h5⟩ := h.rows
  exact heap_cell h3 (h5 i h1 h2)
theorem Tab.entry (h : Tab TO TG E base O n m OK G lo kk w) {i k e : Nat} (h1 : lo ≤ i) (h2 : i ≤ n) (h3 : k ≤ m) (h4 : e < E) (h5 : lo < i ∨ kk ≤ k) : ∃ v, w.cell? ⟨G i, k * E + e, none⟩ = some v ∧ OK i k e v := by
  obtain ⟨A, h6, _, h7⟩ := h.row i h1 h2
  obtain ⟨v, h8, h9⟩ := h7 k e h3 h4 h5
  exact ⟨v, heap_cell h6 h8, h9⟩
theorem Tab.frozenO (h : Tab TO TG E base O n m OK G lo kk w) (i : Nat) : w.frozen? ⟨O, i, none⟩ = false := by
  obtain ⟨A, h3, _, h5⟩ := h.rows
  simp [World.frozen?, h3]
theorem Tab.frozenG (h : Tab TO TG E base O n m OK G lo kk w) {i : Nat} (h1 : lo ≤ i) (h2 : i ≤ n) (j : Nat) : w.frozen? ⟨G i, j, none⟩ = false := by
  obtain ⟨A, h3, _⟩ := h.row i h1 h2
  simp [World.frozen?, h3]
theorem Tab.holdO (h : Tab TO TG E base O n m OK G lo kk w) {i : Nat} (hi : i ≤ n) : ∃ v, w.cell? ⟨O, i, none⟩ = some v := by
  obtain ⟨A, h3, h4, _⟩ := h.rows
  exact ⟨A[i]'(by omega), heap_cell h3 (Array.getElem?_eq_getElem (by omega))⟩
theorem Tab.holdG (h : Tab TO TG E base O n m OK G lo kk w) {i j : Nat} (h1 : lo ≤ i) (h2 : i ≤ n) (hj : j < (m + 1) * E) : ∃ v, w.cell? ⟨G i, j, none⟩ = some v := by
  obtain ⟨A, h3, h4, _⟩ := h.row i h1 h2
  exact ⟨A[j]'(by omega), heap_cell h3 (Array.getElem?_eq_getElem (by omega))⟩
/-- No row yet. -/
theorem Tab.start {A : Array Value} (hO : w.heap[O]? = some (.cells A TO (0, 0))) (hA : A.size = n + 1) (hb : base ≤ O) (G : Nat → Nat) (kk : Nat) : Tab TO TG E base O n m OK G (n + 1) kk w :=
  ⟨⟨A, hO, hA, fun i h1 h2 => by omega⟩, fun i h1 h2 => by omega, fun i h1 h2 => by omega, fun i j h1 h2 => by omega, hb⟩
def setG (G : Nat → Nat) (i g : Nat) : Nat → Nat := fun j => if j = i then g else G j
theorem setG_same (G : Nat → Nat) (i g : Nat) : setG G i g i = g := by simp [setG]
theorem setG_other (G : Nat → Nat) {i j : Nat} (g : Nat) (h : j ≠ i) : setG G i g j = G j := by simp [setG, h]
/-- A row more. -/
theorem Tab.more {w' : World} {g : Nat} {B : Array Value} (h : Tab TO TG E base O n m OK G (lo + 1) 0 w) (hlo : lo ≤ n) (hg : w.heap.size ≤ g) (hgs : w'.heap[g]? = some (.cells B TG (0, 0))) (hB : B.size = (m + 1) * E) (hO : ∀ A, w.heap[O]? = some (.cells A TO (0, 0)) → w'.heap[O]? = some (.cells (A.setIfInBounds lo (.slice (some ⟨g, 0, none⟩) (m + 1) (m + 1))) TO (0, 0)))
    (hk : ∀ k, k < w.heap.size → k ≠ O → w'.heap[k]? = w.heap[k]?) : Tab TO TG E base O n m OK (setG G lo g) lo (m + 1) w' := by
  have hOl := h.lt
  have ht := h.top
  refine ⟨?_, fun i h1 h2 => ?_, fun i h1 h2 => ?_, fun i j h1 h2 h3 h4 h5 => ?_, h.top⟩
  · obtain ⟨A, h1, h2, h3⟩ := h.rows
    refine ⟨_, hO A h1, by simpa using h2, fun i h4 h5 => ?_⟩
    by_cases e : i = lo
    · subst e
      rw [setG_same, Array.getElem?_setIfInBounds_self_of_lt (by omega)]
    · rw [setG_other _ _ e, Array.getElem?_setIfInBounds_ne (by omega)]
      exact h3 i (by omega) h5
  · by_cases e : i = lo
    · subst e
      rw [setG_same]
      exact ⟨B, hgs, hB, fun k e h3 h4 h5 => by omega⟩
    · rw [setG_other _ _ e]
      have hl := h.ltG (i := i) (by omega) h2
      obtain ⟨A, h3, h4, h5⟩ := h.row i (by omega) h2
      exact ⟨A, (hk _ hl (h.sep i (by omega) h2).1).trans h3, h4, fun k e h6 h7 _ => h5 k e h6 h7 (.inr (Nat.zero_le _))⟩
  · by_cases e : i = lo
    · subst e
      rw [setG_same]
      omega
    · rw [setG_other _ _ e]
      exact h.sep i (by omega) h2
  · by_cases e : i = lo
    · subst e
      rw [setG_same, setG_other _ _ (Ne.symm h5)]
      have := h.ltG (i := j) (by omega) h4
      omega
    · by_cases e2 : j = lo
      · subst e2
        rw [setG_same, setG_other _ _ e]
        have := h.ltG (i := i) (by omega) h2
        omega
      · rw [setG_other _ _ e, setG_other _ _ e2]
        exact h.inj i j (by omega) h2 (by omega) h4 h5
/-- An entry more. -/
theorem Tab.put {w' : World} (h : Tab TO TG E base O n m OK G lo (kk + 1) w) (hlo : lo ≤ n) (hkk : kk ≤ m) (hG : ∀ A, w.heap[G lo]? = some (.cells A TG (0, 0)) → ∃ B, w'.heap[G lo]? = some (.cells B TG (0, 0)) ∧ B.size = A.size ∧ (∀ j, (j < kk * E ∨ (kk + 1) * E ≤ j) → B[j]? = A[j]?) ∧ ∀ e, e < E → ∃ v, B[kk * E + e]? = some v ∧ OK lo kk e v)
    (hk : ∀ k, k < w.heap.size → k ≠ G lo → w'.heap[k]? = w.heap[k]?) : Tab TO TG E base O n m OK G lo kk w' := by
  refine ⟨?_, fun i h1 h2 => ?_, h.sep, h.inj, h.top⟩
  · obtain ⟨A, h1, h2, h3⟩ := h.rows
    exact ⟨A, (hk O h.lt (Ne.symm (h.sep lo (Nat.le_refl _) hlo).1)).trans h1, h2, h3⟩
  · obtain ⟨A, h3, h4, h5⟩ := h.row i h1 h2
    by_cases e : i = lo
    · subst e
      obtain ⟨B, h6, h7, h8, h9⟩ := hG A h3
      refine ⟨B, h6, h7.trans h4, fun k e h10 h11 h12 => ?_⟩
      by_cases ek : k = kk
      · subst ek
        exact h9 e h11
      · have hle : (kk + 1) * E ≤ k * E := Nat.mul_le_mul_right _ (by omega)
        rw [h8 _ (.inr (by omega))]
        exact h5 k e h10 h11 (.inr (by omega))
    · refine ⟨A, (hk _ (h.ltG h1 h2) (h.inj i lo h1 h2 (Nat.le_refl _) hlo e)).trans h3, h4, fun k e h10 h11 _ => h5 k e h10 h11 (.inl (by omega))⟩
end
end Go.Proofs.YtdfkaijeppdhaaaGreatDoor
