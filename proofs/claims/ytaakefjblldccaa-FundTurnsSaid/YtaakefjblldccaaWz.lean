/- Texts of this claim, laid together: Wx, Wz. -/
import Derived.Test.YtaakefjblldccaaWw
import Derived.Deep.AppendLies

/- Contract: awards in whole numbers (the reference). -/
namespace Go.Proofs.Ytaakefjblldccaa
open Go.RowKit

/-- The awards, and what is given out. -/
structure WR (n0 b cap go co n : Nat) (R : List Rat2) (out : List Int) (W : World) : Prop where
  row : W.ownsRow n0 23 2 (.slice (some ⟨b, 0, none⟩) n cap) n (flatR R)
  rout : W.ownsRow n0 3 1 (.slice (some ⟨go, 0, none⟩) out.length co) out.length (out.map (Value.int .i64))
  lr : R.length = n
theorem WR.ne {n0 b cap go co n : Nat} {R : List Rat2} {out : List Int} {W : World} (h : WR n0 b cap go co n R out W) : b ≠ go := row_ne h.row h.rout (by decide)
theorem WR.lt {n0 b cap go co n : Nat} {R : List Rat2} {out : List Int} {W : World} (h : WR n0 b cap go co n R out W) : b < W.heap.size ∧ go < W.heap.size ∧ n0 ≤ b ∧ n0 ≤ go := by
  obtain ⟨_, h1, h2⟩ := row_block h.row
  obtain ⟨_, h3, h4⟩ := row_block h.rout
  exact ⟨(Array.getElem?_eq_some_iff.1 h2).1, (Array.getElem?_eq_some_iff.1 h4).1, h1, h3⟩
theorem WR.below {n0 b cap go co n : Nat} {R : List Rat2} {out : List Int} {W W' : World} (h : WR n0 b cap go co n R out W) (hb : Below W.heap.size W W') : WR n0 b cap go co n R out W' :=
  ⟨row_keep h.row (hb.block _ h.lt.1), row_keep h.rout (hb.block _ h.lt.2.1), h.lr⟩
theorem WR.setOut {n0 b cap go co n : Nat} {R : List Rat2} {out : List Int} {W : World} (h : WR n0 b cap go co n R out W) (k : Nat) (x : Int) : WR n0 b cap go co n R (out.set k x) (W.setCell ⟨go, k, none⟩ (.int .i64 x)) := by
  refine ⟨row_keep h.row (Below.heap_setCell _ _ _ _ h.ne), ?_, h.lr⟩
  rw [List.map_set, List.length_set]
  exact (h.rout.stored k (.int .i64 x)).1
theorem WR.setR {n0 b cap go co n : Nat} {R : List Rat2} {out : List Int} {W : World} (h : WR n0 b cap go co n R out W) (k : Nat) (x : Int) (hk : k < n) : WR n0 b cap go co n (R.set k (x, (R.getD k (0, 0)).2)) out (W.setCell ⟨b, k * 2, none⟩ (.int .i64 x)) := by
  refine ⟨?_, row_keep h.rout (Below.heap_setCell _ _ _ _ (Ne.symm h.ne)), by rw [List.length_set]; exact h.lr⟩
  rw [flatR_set1 R k x (by rw [h.lr]; exact hk)]
  exact (h.row.stored (k * 2) (.int .i64 x)).1
theorem WR.facts {n0 b cap go co n : Nat} {R : List Rat2} {out : List Int} {W : World} (h : WR n0 b cap go co n R out W) {k : Nat} (hk : k < n) :
    W.cell? ⟨b, k * 2, none⟩ = some (.int .i64 (R.getD k (0, 0)).1) ∧ W.cell? ⟨b, k * 2 + 1, none⟩ = some (.int .i64 (R.getD k (0, 0)).2) ∧ W.frozen? ⟨b, k * 2, none⟩ = false := by
  obtain ⟨e1, e2⟩ := flatR_at R k (by rw [h.lr]; exact hk)
  exact ⟨(h.row.cellAt _ (by omega)).trans e1, (h.row.cellAt _ (by omega)).trans e2, h.row.frozenAt _⟩
theorem WR.outAt {n0 b cap go co n : Nat} {R : List Rat2} {out : List Int} {W : World} (h : WR n0 b cap go co n R out W) {k : Nat} (hk : k < out.length) : W.cell? ⟨go, k, none⟩ = some (.int .i64 (out.getD k 0)) ∧ W.frozen? ⟨go, k, none⟩ = false := by
  refine ⟨?_, h.rout.frozenAt _⟩
  rw [h.rout.cellAt k (by omega)]
  simp [List.getD_eq_getElem?_getD, hk]

/-- The rests when some have been taken. -/
def zerR (R : List Rat2) (L : List Nat) : List Rat2 := L.foldl (fun r i => r.set i (0, (r.getD i (0, 0)).2)) R
theorem zerR_snoc (R : List Rat2) (L : List Nat) (i : Nat) : zerR R (L ++ [i]) = (zerR R L).set i (0, ((zerR R L).getD i (0, 0)).2) := by simp [zerR, List.foldl_append]
theorem rep_zero {Q : Int} {R : List Rat2} {G : List Int} (h : Rep Q R G) {i : Nat} (hi : i < G.length) : Rep Q (R.set i (0, (R.getD i (0, 0)).2)) (G.set i 0) := by
  have hl := h.len
  refine ⟨by simp [hl], h.hQ, fun j hj => ?_, fun j hj => ?_⟩
  · rw [List.length_set] at hj
    by_cases hji : j = i
    · subst hji
      rw [show (R.set j (0, (R.getD j (0, 0)).2)).getD j (0, 0) = (0, (R.getD j (0, 0)).2) by simp [List.getD_eq_getElem?_getD, show j < R.length by omega]]
      exact h.den j hi
    · rw [show (R.set i (0, (R.getD i (0, 0)).2)).getD j (0, 0) = R.getD j (0, 0) by simp [List.getD_eq_getElem?_getD, List.getElem?_set, Ne.symm hji]]
      exact h.den j hj
  · rw [List.length_set] at hj
    by_cases hji : j = i
    · subst hji
      rw [show (R.set j (0, (R.getD j (0, 0)).2)).getD j (0, 0) = (0, (R.getD j (0, 0)).2) by simp [List.getD_eq_getElem?_getD, show j < R.length by omega], show (G.set j 0).getD j 0 = 0 by simp [List.getD_eq_getElem?_getD, hj]]
      simp
    · rw [show (R.set i (0, (R.getD i (0, 0)).2)).getD j (0, 0) = R.getD j (0, 0) by simp [List.getD_eq_getElem?_getD, List.getElem?_set, Ne.symm hji], show (G.set i 0).getD j 0 = G.getD j 0 by simp [List.getD_eq_getElem?_getD, List.getElem?_set, Ne.symm hji]]
      exact h.val j hj
theorem rep_zer {Q : Int} : ∀ (L : List Nat) {R : List Rat2} {G : List Int}, Rep Q R G → (∀ i ∈ L, i < G.length) → Rep Q (zerR R L) (zerL G L)
  | [], _, _, h, _ => h
  | i :: L, R, G, h, hl => rep_zer L (rep_zero h (hl i (by simp))) (fun j hj => by rw [List.length_set]; exact hl j (by simp [hj]))
theorem mod_zero {R : List Rat2} (h : Mod R) (i : Nat) (hi : i < R.length) : Mod (R.set i (0, (R.getD i (0, 0)).2)) := fun x hx => by
  rcases List.mem_or_eq_of_mem_set hx with hx | rfl
  · exact h x hx
  · have := h _ (getD_mem2 hi)
    exact ⟨by simp, by simp, this.2.2.1, this.2.2.2⟩
theorem mod_zer : ∀ (L : List Nat) {R : List Rat2}, Mod R → (∀ i ∈ L, i < R.length) → Mod (zerR R L)
  | [], _, h, _ => h
  | i :: L, R, h, hl => mod_zer L (mod_zero h i (hl i (by simp))) (fun j hj => by rw [List.length_set]; exact hl j (by simp [hj]))
theorem zerR_len : ∀ (L : List Nat) (R : List Rat2), (zerR R L).length = R.length
  | [], R => rfl
  | i :: L, R => (zerR_len L _).trans List.length_set

end Go.Proofs.Ytaakefjblldccaa

/- Contract: awards in whole numbers (the reference): the walk. -/
namespace Go.Proofs.Ytaakefjblldccaa
open Go.RowKit

/-- As WR, while nothing may be given out yet. -/
structure WQ (n0 b cap n : Nat) (R : List Rat2) (o : Value) (out : List Int) (W : World) : Prop where
  row : W.ownsRow n0 23 2 (.slice (some ⟨b, 0, none⟩) n cap) n (flatR R)
  rout : W.ownsRow n0 3 1 o out.length (out.map (Value.int .i64))
  lr : R.length = n
theorem WR.wq {n0 b cap go co n : Nat} {R : List Rat2} {out : List Int} {W : World} (h : WR n0 b cap go co n R out W) : WQ n0 b cap n R (.slice (some ⟨go, 0, none⟩) out.length co) out W := ⟨h.row, h.rout, h.lr⟩
theorem WQ.split {n0 b cap n : Nat} {R : List Rat2} {o : Value} {out : List Int} {W : World} (h : WQ n0 b cap n R o out W) (h0 : 0 < out.length) : ∃ go co, o = .slice (some ⟨go, 0, none⟩) out.length co ∧ WR n0 b cap go co n R out W := by
  have ho := h.rout
  rcases ho.2 with ⟨h1, h2⟩ | ⟨g, cap', cur, h1, h2, h3, _⟩
  · omega
  · subst h1
    exact ⟨g, cap', rfl, h.row, ho, h.lr⟩
theorem WQ.facts {n0 b cap n : Nat} {R : List Rat2} {o : Value} {out : List Int} {W : World} (h : WQ n0 b cap n R o out W) {k : Nat} (hk : k < n) :
    W.cell? ⟨b, k * 2, none⟩ = some (.int .i64 (R.getD k (0, 0)).1) ∧ W.cell? ⟨b, k * 2 + 1, none⟩ = some (.int .i64 (R.getD k (0, 0)).2) := by
  obtain ⟨e1, e2⟩ := flatR_at R k (by rw [h.lr]; exact hk)
  exact ⟨(h.row.cellAt _ (by omega)).trans e1, (h.row.cellAt _ (by omega)).trans e2⟩
/-- Behind an append to what is given out. -/
theorem WQ.appended {n0 b cap n : Nat} {R : List Rat2} {o : Value} {out : List Int} {W w3 : World} {ob : Obj} {g cp m : Nat} {x : Int} (h : WQ n0 b cap n R o out W)
    (hown : w3.ownsRow n0 3 1 (.slice (some ⟨g, 0, none⟩) m cp) m (out.map (Value.int .i64) ++ [.int .i64 x])) (hm : m = out.length + 1)
    (hg : (W.alloc ob).grownBy w3 o.ownBlock) : WR n0 b cap g cp n R (out ++ [x]) w3 := by
  subst hm
  refine ⟨?_, by rw [List.length_append, List.map_append]; exact hown, h.lr⟩
  obtain ⟨_, h1, h2⟩ := row_block h.row
  have hb : b < W.heap.size := (Array.getElem?_eq_some_iff.1 h2).1
  refine row_keep (row_keep h.row (((Below.refl _ W).alloc (Nat.le_refl _) ob).block _ hb)) (hg.block b (by simp; omega) ?_)
  intro e
  rcases h.rout.2 with ⟨h3, h4⟩ | ⟨g', cap', cur, h3, h4, h5, _⟩
  · rw [h3] at e; cases e
  · subst h3
    have : b = g' := by simpa [Value.ownBlock] using e
    subst this
    rw [h2] at h5
    simp at h5

/-- What Whole gives, as the order L says. -/
def GivesHL (L : List Nat) (c : List Int) (n r : Int) (w : World) (e : Ending) (w' : World) : Prop :=
  ∃ ov res, e = .returned (.tuple #[ov, .int .i64 (shareE c n r)]) ∧ IntsAt w' ov res ∧ Below w.heap.size w w' ∧ (shareE c n r ≠ 0 → res = []) ∧
    (shareE c n r = 0 → res = incL (qsL (shareL c n r)) (L.take (whN n (shareL c n r))))

end Go.Proofs.Ytaakefjblldccaa
