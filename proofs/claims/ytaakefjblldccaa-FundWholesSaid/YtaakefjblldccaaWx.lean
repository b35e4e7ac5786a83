/- Contract: awards in whole numbers (the reference). -/
import Derived.Test.YtaakefjblldccaaWw
import Derived.Deep.AppendLies
namespace Go.Proofs.Ytaakefjblldccaa
open Go.RowKit

/-- The awards, and what is given out. -/
structure WR (n0 b cap go co n : Nat) (R : List Rat2) (out : List Int) (W : World) : Prop where
  row : W.ownsRow n0 23 2 (.slice (some ⟨b, 0, none⟩) n cap) n (flatR R)
  rout : W.ownsRow n0 3 1 (.slice (some ⟨go, 0, none⟩) out.length co) out.length (out.map (Value.int .i64))
  lr : R.length = n
theorem WR.ne {n0 b cap go co n : Nat} {R : List Rat2} {out : List Int} {W : World} (h : WR n0 b cap go co n R out W) : b ≠ go := row_ne h.row h.rout (by decide)
theorem WR.lt {n0 b cap go co n : Nat} {R : List Rat2} {out : List Int} {W : World} (h : WR n0 b cap go co n R out W) : b < W.heap.size ∧ go < W.heap.size ∧ n0 ≤ b ∧ n0 ≤ go := by
  obtain ⟨_, h1, h2⟩ := row_block h.row
  obtain ⟨_, h3, h4⟩ := row_block h.rout
  exact ⟨(Array.getElem?_eq_some_iff.1 h2).1, (Array.getElem?_eq_some_iff.1 h4).1, h1, h3⟩
theorem WR.below {n0 b cap go co n : Nat} {R : List Rat2} {out : List Int} {W W' : World} (h : WR n0 b cap go co n R out W) (hb : Below W.heap.size W W') : WR n0 b cap go co n R out W' :=
  ⟨row_keep h.row (hb.block _ h.lt.1), row_keep h.rout (hb.block _ h.lt.2.1), h.lr⟩
theorem WR.setOut {n0 b cap go co n : Nat} {R : List Rat2} {out : List Int} {W : World} (h : WR n0 b cap go co n R out W) (k : Nat) (x : Int) : WR n0 b cap go co n R (out.set k x) (W.setCell ⟨go, k, none⟩ (.int .i64 x)) := by
  refine ⟨row_keep h.row (Below.heap_setCell _ _ _ _ h.ne), ?_, h.lr⟩
  rw [List.map_set, List.length_set]
  exact (h.rout.stored k (.int .i64 x)).1
theorem WR.setR {n0 b cap go co n : Nat} {R : List Rat2} {out : List Int} {W : World} (h : WR n0 b cap go co n R out W) (k : Nat) (x : Int) (hk : k < n) : WR n0 b cap go co n (R.set k (x, (R.getD k (0, 0)).2)) out (W.setCell ⟨b, k * 2, none⟩ (.int .i64 x)) := by
  refine ⟨?_, row_keep h.rout (Below.heap_setCell _ _ _ _ (Ne.symm h.ne)), by rw [List.length_set]; exact h.lr⟩
  rw [flatR_set1 R k x (by rw [h.lr]; exact hk)]
  exact (h.row.stored (k * 2) (.int .i64 x)).1
theorem WR.facts {n0 b cap go co n : Nat} {R : List Rat2} {out : List Int} {W : World} (h : WR n0 b cap go co n R out W) {k : Nat} (hk : k < n) :
    W.cell? ⟨b, k * 2, none⟩ = some (.int .i64 (R.getD k (0, 0)).1) ∧ W.cell? ⟨b, k * 2 + 1, none⟩ = some (.int .i64 (R.getD k (0, 0)).2) ∧ W.frozen? ⟨b, k * 2, none⟩ = false := by
  obtain ⟨e1, e2⟩ := flatR_at R k (by rw [h.lr]; exact hk)
  exact ⟨(h.row.cellAt _ (by omega)).trans e1, (h.row.cellAt _ (by omega)).trans e2, h.row.frozenAt _⟩
theorem WR.outAt {n0 b cap go co n : Nat} {R : List Rat2} {out : List Int} {W : World} (h : WR n0 b cap go co n R out W) {k : Nat} (hk : k < out.length) : W.cell? ⟨go, k, none⟩ = some (.int .i64 (out.getD k 0)) ∧ W.frozen? ⟨go, k, none⟩ = false := by
  refine ⟨?_, h.rout.frozenAt _⟩
  rw [h.rout.cellAt k (by omega)]
  simp [List.getD_eq_getElem?_getD, hk]

/-- The rests when some have been taken. -/
def zerR (R : List Rat2) (L : List Nat) : List Rat2 := L.foldl (fun r i => r.set i (0, (r.getD i (0, 0)).2)) R
theorem zerR_snoc (R : List Rat2) (L : List Nat) (i : Nat) : zerR R (L ++ [i]) = (zerR R L).set i (0, ((zerR R L).getD i (0, 0)).2) := by simp [zerR, List.foldl_append]
theorem rep_zero {Q : Int} {R : List Rat2} {G : List Int} (h : Rep Q R G) {i : Nat} (hi : i < G.length) : Rep Q (R.set i (0, (R.getD i (0, 0)).2)) (G.set i 0) := by
  have hl := h.len
  refine ⟨by simp [hl], h.hQ, fun j hj => ?_, fun j hj => ?_⟩
  · rw [List.length_set] at hj
    by_cases hji : j = i
    · subst hji
      rw [show (R.set j (0, (R.getD j (0, 0)).2)).getD j (0, 0) = (0, (R.getD j (0, 0)).2) by simp [List.getD_eq_getElem?_getD, show j < R.length by omega]]
      exact h.den j hi
    · rw [show (R.set i (0, (R.getD i (0, 0)).2)).getD j (0, 0) = R.getD j (0, 0) by simp [List.getD_eq_getElem?_getD, List.getElem?_set, Ne.symm hji]]
      exact h.den j hj
  · rw [List.length_set] at hj
    by_cases hji : j = i
    · subst hji
      rw [show (R.set j (0, (R.getD j (0, 0)).2)).getD j (0, 0) = (0, (R.getD j (0, 0)).2) by simp [List.getD_eq_getElem?_getD, show j < R.length by omega], show (G.set j 0).getD j 0 = 0 by simp [List.getD_eq_getElem?_getD, hj]]
      simp
    · rw [show (R.set i (0, (R.getD i (0, 0)).2)).getD j (0, 0) = R.getD j (0, 0) by simp [List.getD_eq_getElem?_getD, List.getElem?_set, Ne.symm hji], show (G.set i 0).getD j 0 = G.getD j 0 by simp [List.getD_eq_getElem?_getD, List.getElem?_set, Ne.symm hji]]
      exact h.val j hj
theorem rep_zer {Q : Int} : ∀ (L : List Nat) {R : List Rat2} {G : List Int}, Rep Q R G → (∀ i ∈ L, i < G.length) → Rep Q (zerR R L) (zerL G L)
  | [], _, _, h, _ => h
  | i :: L, R, G, h, hl => rep_zer L (rep_zero h (hl i (by simp))) (fun j hj => by rw [List.length_set]; exact hl j (by simp [hj]))
theorem mod_zero {R : List Rat2} (h : Mod R) (i : Nat) (hi : i < R.length) : Mod (R.set i (0, (R.getD i (0, 0)).2)) := fun x hx => by
  rcases List.mem_or_eq_of_mem_set hx with hx | rfl
  · exact h x hx
  · have := h _ (getD_mem2 hi)
    exact ⟨by simp, by simp, this.2.2.1, this.2.2.2⟩
theorem mod_zer : ∀ (L : List Nat) {R : List Rat2}, Mod R → (∀ i ∈ L, i < R.length) → Mod (zerR R L)
  | [], _, h, _ => h
  | i :: L, R, h, hl => mod_zer L (mod_zero h i (hl i (by simp))) (fun j hj => by rw [List.length_set]; exact hl j (by simp [hj]))
theorem zerR_len : ∀ (L : List Nat) (R : List Rat2), (zerR R L).length = R.length
  | [], R => rfl
  | i :: L, R => (zerR_len L _).trans List.length_set

end Go.Proofs.Ytaakefjblldccaa
