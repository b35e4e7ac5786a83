/- Contracts: Play. -/
import Derived.Test.YtdfkaijeppdhaaaGreatDoorFj
namespace Go.Proofs.YtdfkaijeppdhaaaGreatDoor
open Go.RowKit Go.Shelf

/-! ### Plain -/
def errW : ByteArray := ⟨#[101, 114, 114, 111, 114, 32]⟩
def playA (r : ByteArray × Int) : ByteArray := if r.2 = 0 then r.1 else errW ++ itoaB r.2
def playN (askB : Book → ByteArray → ByteArray × Int) (lines : List ByteArray) : Nat → List ByteArray × (Nat → Book)
  | 0 => ([], fun _ => empB)
  | k + 1 => ((playN askB lines k).1 ++ [playA (doesB askB (playN askB lines k).2 (lines.getD k emp)).1], (doesB askB (playN askB lines k).2 (lines.getD k emp)).2)
theorem doesB_congr (askB : Book → ByteArray → ByteArray × Int) {bs bs' : Nat → Book} (h : ∀ j, j < 4 → bs j = bs' j) (line : ByteArray) : (doesB askB bs line).1 = (doesB askB bs' line).1 ∧ ∀ j, j < 4 → (doesB askB bs line).2 j = (doesB askB bs' line).2 j := by
  unfold doesB
  cases hp : postV (firstW line) with
  | none => exact ⟨rfl, h⟩
  | some n =>
    have hn := (postV_some hp).2
    have hset : ∀ (c c' : Book), c = c' → ∀ j, j < 4 → setN bs n c j = setN bs' n c' j := fun c c' e j hj => by
      unfold setN
      split
      · exact e
      · exact h j hj
    simp only
    rw [h n hn]
    split
    · cases hk : postV (otherW (restW line)) with
      | none => exact ⟨rfl, h⟩
      | some k =>
        simp only
        rw [h k (postV_some hk).2]
        exact ⟨rfl, hset _ _ rfl⟩
    · split
      · exact ⟨rfl, hset _ _ rfl⟩
      · split
        · exact ⟨rfl, h⟩
        · exact ⟨rfl, h⟩
theorem doB_err (b : Book) (n : Nat) (line : ByteArray) : 0 ≤ (doB b n line).2.1 ∧ (doB b n line).2.1 ≤ 1000 := by
  unfold doB
  split
  · simp
  · rename_i c hc
    split
    · simp
    · split
      · simp
      · split
        · simp
        · cases c <;> simp [sayB]
          split <;> simp
theorem doesB_err (askB : Book → ByteArray → ByteArray × Int) (hsm : ∀ b l, 0 ≤ (askB b l).2 ∧ (askB b l).2 ≤ 1000) (bs : Nat → Book) (line : ByteArray) : 0 ≤ (doesB askB bs line).1.2 ∧ (doesB askB bs line).1.2 ≤ 1000 := by
  unfold doesB
  split
  · simp
  · split
    · split
      · simp
      · simp only [joinV]
        split <;> simp
    · split
      · exact doB_err _ _ _
      · split
        · exact hsm _ _
        · simp
theorem play_len (askB : Book → ByteArray → ByteArray × Int) (lines : List ByteArray) : ∀ k, (playN askB lines k).1.length = k
  | 0 => rfl
  | k + 1 => by unfold playN; rw [List.length_append, play_len askB lines k]; rfl

/-! ### Memory -/
theorem PostAt.types {w : World} {P n : Nat} {F : List Nat} {b : Book} (h : PostAt w P F n b) {k : Nat} (hk : k ∈ F) : ∃ cs t fr, w.heap[k]? = some (.cells cs t fr) ∧ (t = 81 ∨ t = 96 ∨ t = 43) := by
  obtain ⟨K, vs, hP, hvs, rfl⟩ := h.parts
  rcases List.mem_cons.1 hk with rfl | hk
  · exact ⟨_, _, _, hP, .inl rfl⟩
  · rcases List.mem_cons.1 hk with rfl | hk
    · exact ⟨_, _, _, hvs.cells, .inr (.inl rfl)⟩
    · obtain ⟨i, hi, h5⟩ := mem_blks.1 hk
      rcases (hvs.list i hi).2 with ⟨h1, _⟩ | ⟨g', cap', cur, h1, _, h2, _⟩
      · rw [h1] at h5; cases h5
      · rw [h1] at h5
        have : g' = k := by simpa [Value.ownBlock] using h5
        subst this
        exact ⟨_, _, _, h2, .inr (.inr rfl)⟩
theorem own_type {w : World} {base : Nat} {e : TypeId} {size : Nat} {v : Value} {n : Nat} {xs : List Value} (h : w.ownsRow base e size v n xs) {k : Nat} (hk : v.ownBlock = some k) : ∃ cur, w.heap[k]? = some (.cells cur e (0, 0)) := by
  rcases h.2 with ⟨h1, _⟩ | ⟨g', cap', cur, h1, _, h2, _⟩
  · rw [h1] at hk; cases hk
  · rw [h1] at hk
    have : g' = k := by simpa [Value.ownBlock] using hk
    subst this
    exact ⟨_, h2⟩
/-- A row of strings, or of posts, stands on no block of a post. -/
theorem PostAt.not_own {w : World} {P n : Nat} {F : List Nat} {b : Book} (h : PostAt w P F n b) {base : Nat} {e : TypeId} {size : Nat} {v : Value} {m : Nat} {xs : List Value} (hr : w.ownsRow base e size v m xs) (he : e ≠ 81 ∧ e ≠ 96 ∧ e ≠ 43) {k : Nat} (hk : k ∈ F) : v.ownBlock ≠ some k := fun hv => by
  obtain ⟨cs, t, fr, h1, h2⟩ := h.types hk
  obtain ⟨cur, h3⟩ := own_type hr hv
  rw [h1] at h3
  simp only [Option.some.injEq, Obj.cells.injEq] at h3
  obtain ⟨_, rfl, _⟩ := h3
  rcases h2 with h2 | h2 | h2
  · exact he.1 h2
  · exact he.2.1 h2
  · exact he.2.2 h2
theorem own_keep {w w' : World} {base : Nat} {e : TypeId} {size : Nat} {v : Value} {n : Nat} {xs : List Value} (h : w.ownsRow base e size v n xs) (hk : ∀ k, v.ownBlock = some k → w'.heap[k]? = w.heap[k]?) : w'.ownsRow base e size v n xs := by
  refine ⟨h.1, ?_⟩
  rcases h.2 with hn | ⟨g, cap, cur, rfl, hbg, hg, hrest⟩
  · exact .inl hn
  · exact .inr ⟨g, cap, cur, rfl, hbg, (hk g rfl).trans hg, hrest⟩
theorem Posts.grown {w w' : World} {m : Nat} {ps : Nat → Pst} (h : Posts w m ps) {base : Nat} {e : TypeId} {size : Nat} {v : Value} {n : Nat} {xs : List Value} (hr : w.ownsRow base e size v n xs) (he : e ≠ 81 ∧ e ≠ 96 ∧ e ≠ 43) (hv : ∀ k, isVar k → k < base) (hg : w.grownBy w' v.ownBlock) : Posts w' m ps :=
  h.keep (fun k hk => hg.block k (h.vars.lt hk) fun e2 => by have := (hr.lt k e2.symm).1; have := hv k hk; omega) fun i hi k hk => hg.block k (h.lt hi hk) fun e2 => (h.post i hi).not_own hr he hk e2.symm
def ptrs (ps : Nat → Pst) (k : Nat) : List Value := (List.range k).map fun j => .pointer (some ⟨(ps j).P, 0, none⟩)
theorem ptrs_snoc (ps : Nat → Pst) (k : Nat) (p : Pst) : ptrs (setS ps k p) (k + 1) = ptrs ps k ++ [.pointer (some ⟨p.P, 0, none⟩)] := by
  unfold ptrs
  rw [List.range_succ, List.map_append, List.map_singleton, setS_same]
  congr 1
  refine List.map_congr_left fun j hj => ?_
  rw [setS_other _ _ (by have := List.mem_range.1 hj; omega)]
theorem ptrs_at (ps : Nat → Pst) {k j : Nat} (h : j < k) : (ptrs ps k)[j]? = some (.pointer (some ⟨(ps j).P, 0, none⟩)) := by
  unfold ptrs
  rw [List.getElem?_map, List.getElem?_range h]; rfl
theorem Tryz.infoPtr : (Tryz.prog.info? 33).map (fun i => (i.zero, i.size, i.bytes)) = some (some (.pointer none), 1, 8) := by kernel_rfl
end Go.Proofs.YtdfkaijeppdhaaaGreatDoor
