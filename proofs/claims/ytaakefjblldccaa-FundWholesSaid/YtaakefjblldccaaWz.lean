/- Contract: awards in whole numbers (the reference): the walk. -/
import Derived.Test.YtaakefjblldccaaWx
namespace Go.Proofs.Ytaakefjblldccaa
open Go.RowKit

/-- As WR, while nothing may be given out yet. -/
structure WQ (n0 b cap n : Nat) (R : List Rat2) (o : Value) (out : List Int) (W : World) : Prop where
  row : W.ownsRow n0 23 2 (.slice (some ⟨b, 0, none⟩) n cap) n (flatR R)
  rout : W.ownsRow n0 3 1 o out.length (out.map (Value.int .i64))
  lr : R.length = n
theorem WR.wq {n0 b cap go co n : Nat} {R : List Rat2} {out : List Int} {W : World} (h : WR n0 b cap go co n R out W) : WQ n0 b cap n R (.slice (some ⟨go, 0, none⟩) out.length co) out W := ⟨h.row, h.rout, h.lr⟩
theorem WQ.split {n0 b cap n : Nat} {R : List Rat2} {o : Value} {out : List Int} {W : World} (h : WQ n0 b cap n R o out W) (h0 : 0 < out.length) : ∃ go co, o = .slice (some ⟨go, 0, none⟩) out.length co ∧ WR n0 b cap go co n R out W := by
  have ho := h.rout
  rcases ho.2 with ⟨h1, h2⟩ | ⟨g, cap', cur, h1, h2, h3, _⟩
  · omega
  · subst h1
    exact ⟨g, cap', rfl, h.row, ho, h.lr⟩
theorem WQ.facts {n0 b cap n : Nat} {R : List Rat2} {o : Value} {out : List Int} {W : World} (h : WQ n0 b cap n R o out W) {k : Nat} (hk : k < n) :
    W.cell? ⟨b, k * 2, none⟩ = some (.int .i64 (R.getD k (0, 0)).1) ∧ W.cell? ⟨b, k * 2 + 1, none⟩ = some (.int .i64 (R.getD k (0, 0)).2) := by
  obtain ⟨e1, e2⟩ := flatR_at R k (by rw [h.lr]; exact hk)
  exact ⟨(h.row.cellAt _ (by omega)).trans e1, (h.row.cellAt _ (by omega)).trans e2⟩
/-- Behind an append to what is given out. -/
theorem WQ.appended {n0 b cap n : Nat} {R : List Rat2} {o : Value} {out : List Int} {W w3 : World} {ob : Obj} {g cp m : Nat} {x : Int} (h : WQ n0 b cap n R o out W)
    (hown : w3.ownsRow n0 3 1 (.slice (some ⟨g, 0, none⟩) m cp) m (out.map (Value.int .i64) ++ [.int .i64 x])) (hm : m = out.length + 1)
    (hg : (W.alloc ob).grownBy w3 o.ownBlock) : WR n0 b cap g cp n R (out ++ [x]) w3 := by
  subst hm
  refine ⟨?_, by rw [List.length_append, List.map_append]; exact hown, h.lr⟩
  obtain ⟨_, h1, h2⟩ := row_block h.row
  have hb : b < W.heap.size := (Array.getElem?_eq_some_iff.1 h2).1
  refine row_keep (row_keep h.row (((Below.refl _ W).alloc (Nat.le_refl _) ob).block _ hb)) (hg.block b (by simp; omega) ?_)
  intro e
  rcases h.rout.2 with ⟨h3, h4⟩ | ⟨g', cap', cur, h3, h4, h5, _⟩
  · rw [h3] at e; cases e
  · subst h3
    have : b = g' := by simpa [Value.ownBlock] using e
    subst this
    rw [h2] at h5
    simp at h5

/-- What Whole gives, as the order L says. -/
def GivesHL (L : List Nat) (c : List Int) (n r : Int) (w : World) (e : Ending) (w' : World) : Prop :=
  ∃ ov res, e = .returned (.tuple #[ov, .int .i64 (shareE c n r)]) ∧ IntsAt w' ov res ∧ Below w.heap.size w w' ∧ (shareE c n r ≠ 0 → res = []) ∧
    (shareE c n r = 0 → res = incL (qsL (shareL c n r)) (L.take (whN n (shareL c n r))))

end Go.Proofs.Ytaakefjblldccaa
