/- Plain mathematics: all deeds of some tanks, in order. -/
import Derived.Test.YtikcpfpeoofppaaI
namespace Go.Proofs.Ytikcpfpeoofppaa

/-- Fills or empties of the first n tanks. -/
def fillsL (o : Int) (n : Nat) : List Deed := (List.range n).map fun (k : Nat) => (o, 0, (k : Int))
/-- Pours from f to the first k tanks. -/
def pF (f k : Nat) : List Deed := ((List.range k).filter (fun j => j != f)).map fun (j : Nat) => (3, (f : Int), (j : Int))
def preF (i n : Nat) : List Deed := (List.range i).flatMap fun (o : Nat) => fillsL ((o : Int) + 1) n
def preP (n f : Nat) : List Deed := (List.range f).flatMap fun g => pF g n
def deedsL (n : Nat) : List Deed := preF 2 n ++ preP n n

theorem fillsL_snoc (o : Int) (n : Nat) : fillsL o (n + 1) = fillsL o n ++ [(o, 0, (n : Int))] := by unfold fillsL; rw [List.range_succ]; simp
theorem pF_same (f : Nat) : pF f (f + 1) = pF f f := by unfold pF; rw [List.range_succ]; simp
theorem pF_snoc {f k : Nat} (h : k ≠ f) : pF f (k + 1) = pF f k ++ [(3, (f : Int), (k : Int))] := by unfold pF; rw [List.range_succ]; simp [h]
theorem preF_snoc (i n : Nat) : preF (i + 1) n = preF i n ++ fillsL ((i : Int) + 1) n := by unfold preF; rw [List.range_succ]; simp
theorem preP_snoc (n f : Nat) : preP n (f + 1) = preP n f ++ pF f n := by unfold preP; rw [List.range_succ]; simp
theorem fillsL_len (o : Int) (n : Nat) : (fillsL o n).length = n := by unfold fillsL; simp
theorem pF_len (f k : Nat) : (pF f k).length ≤ k := by
  unfold pF
  rw [List.length_map]
  exact Nat.le_trans (List.length_filter_le _ _) (by simp)
theorem preF_len (n : Nat) : ∀ i, (preF i n).length = i * n
  | 0 => by simp [preF]
  | i + 1 => by rw [preF_snoc, List.length_append, preF_len n i, fillsL_len, Nat.succ_mul]
theorem preP_len (n : Nat) : ∀ f, (preP n f).length ≤ f * n
  | 0 => by simp [preP]
  | f + 1 => by
    have := preP_len n f
    have := pF_len f n
    rw [preP_snoc, List.length_append, Nat.succ_mul]; omega

theorem mem_fillsL {o : Int} {n : Nat} {d : Deed} : d ∈ fillsL o n ↔ d.1 = o ∧ d.2.1 = 0 ∧ 0 ≤ d.2.2 ∧ d.2.2 < n := by
  obtain ⟨a, b, c⟩ := d
  unfold fillsL
  simp only [List.mem_map, List.mem_range, Prod.mk.injEq]
  constructor
  · rintro ⟨k, hk, rfl, rfl, rfl⟩
    exact ⟨rfl, rfl, by omega, by omega⟩
  · rintro ⟨rfl, rfl, h1, h2⟩
    exact ⟨c.toNat, by omega, rfl, rfl, by omega⟩
theorem mem_pF {f k : Nat} {d : Deed} : d ∈ pF f k ↔ d.1 = 3 ∧ d.2.1 = f ∧ 0 ≤ d.2.2 ∧ d.2.2 < k ∧ d.2.2 ≠ f := by
  obtain ⟨a, b, c⟩ := d
  unfold pF
  simp only [List.mem_map, List.mem_filter, List.mem_range, Prod.mk.injEq, bne_iff_ne]
  constructor
  · rintro ⟨j, ⟨hj, hne⟩, rfl, rfl, rfl⟩
    exact ⟨rfl, rfl, by omega, by omega, by omega⟩
  · rintro ⟨rfl, rfl, h1, h2, h3⟩
    exact ⟨c.toNat, ⟨by omega, by omega⟩, rfl, rfl, by omega⟩
theorem mem_deedsL {n : Nat} {d : Deed} : d ∈ deedsL n ↔ IsD n d := by
  unfold deedsL preP IsD
  rw [List.mem_append, show preF 2 n = fillsL 1 n ++ fillsL 2 n by rw [preF_snoc, preF_snoc]; simp [preF], List.mem_append, mem_fillsL, mem_fillsL]
  simp only [List.mem_flatMap, List.mem_range, mem_pF]
  constructor
  · rintro ((⟨h1, h2, h3, h4⟩ | ⟨h1, h2, h3, h4⟩) | ⟨f, hf, h1, h2, h3, h4, h5⟩)
    · exact .inl ⟨.inl h1, h2, h3, h4⟩
    · exact .inl ⟨.inr h1, h2, h3, h4⟩
    · exact .inr ⟨h1, by omega, by omega, h3, h4, by omega⟩
  · rintro (⟨h1 | h1, h2, h3, h4⟩ | ⟨h1, h2, h3, h4, h5, h6⟩)
    · exact .inl (.inl ⟨h1, h2, h3, h4⟩)
    · exact .inl (.inr ⟨h1, h2, h3, h4⟩)
    · exact .inr ⟨d.2.1.toNat, by omega, h1, by omega, h4, h5, by omega⟩
theorem deedsL_len {n : Nat} (h : n ≤ 4) : (deedsL n).length ≤ 24 := by
  unfold deedsL
  have := preP_len n n
  have h2 : n * n ≤ 4 * 4 := Nat.mul_le_mul h h
  rw [List.length_append, preF_len]; omega

end Go.Proofs.Ytikcpfpeoofppaa
