/- Contract: awards in whole numbers (the program). -/
import Derived.Test.YtaakefjblldccaaWp
namespace Go.Proofs.Ytaakefjblldccaa
open Go.RowKit

theorem row_block {W : World} {B g n cap sz : Nat} {e : TypeId} {xs : List Value} (h : W.ownsRow B e sz (.slice (some ⟨g, 0, none⟩) n cap) n xs) : ∃ cur, B ≤ g ∧ W.heap[g]? = some (.cells cur e (0, 0)) := by
  rcases h.2 with ⟨h1, _⟩ | ⟨g', cap', cur, h1, h2, h3, _⟩
  · cases h1
  · simp only [Value.slice.injEq, Option.some.injEq, Addr.mk.injEq] at h1
    obtain ⟨⟨rfl, -⟩, -, -⟩ := h1
    exact ⟨cur, h2, h3⟩
theorem row_ne {W : World} {B B' g g' n n' cap cap' sz sz' : Nat} {e e' : TypeId} {xs xs' : List Value} (h : W.ownsRow B e sz (.slice (some ⟨g, 0, none⟩) n cap) n xs) (h' : W.ownsRow B' e' sz' (.slice (some ⟨g', 0, none⟩) n' cap') n' xs') (hne : e ≠ e') : g ≠ g' := by
  rintro rfl
  obtain ⟨c, _, h1⟩ := row_block h
  obtain ⟨c', _, h2⟩ := row_block h'
  rw [h1] at h2
  simp only [Option.some.injEq, Obj.cells.injEq] at h2
  exact hne h2.2.1
theorem row_ne_box {W : World} {B g n cap sz Bx : Nat} {e e' : TypeId} {xs : List Value} {cs : Array Value} (h : W.ownsRow B e sz (.slice (some ⟨g, 0, none⟩) n cap) n xs) (h' : W.heap[Bx]? = some (.cells cs e' (0, 0))) (hne : e ≠ e') : g ≠ Bx := by
  rintro rfl
  obtain ⟨c, _, h1⟩ := row_block h
  rw [h1] at h'
  simp only [Option.some.injEq, Obj.cells.injEq] at h'
  exact hne h'.2.1
theorem row_keep {W W' : World} {B g n cap sz : Nat} {e : TypeId} {xs : List Value} (h : W.ownsRow B e sz (.slice (some ⟨g, 0, none⟩) n cap) n xs) (hk : W'.heap[g]? = W.heap[g]?) : W'.ownsRow B e sz (.slice (some ⟨g, 0, none⟩) n cap) n xs := by
  refine ⟨h.1, ?_⟩
  rcases h.2 with h1 | ⟨g', cap', cur, h1, h2, h3, h4⟩
  · exact .inl h1
  · simp only [Value.slice.injEq, Option.some.injEq, Addr.mk.injEq] at h1
    obtain ⟨⟨rfl, -⟩, -, rfl⟩ := h1
    exact .inr ⟨_, _, cur, rfl, h2, hk.trans h3, h4⟩

/-- The box of the awards, the awards, what is given out, and the order. -/
structure WS (n0 B8 b cap go gr n : Nat) (R : List Rat2) (out ord : List Int) (W : World) : Prop where
  box : W.heap[B8]? = some (.cells #[.slice (some ⟨b, 0, none⟩) n cap] 30 (0, 0))
  row : W.ownsRow n0 23 2 (.slice (some ⟨b, 0, none⟩) n cap) n (flatR R)
  rout : W.ownsRow n0 3 1 (.slice (some ⟨go, 0, none⟩) n n) n (out.map (Value.int .i64))
  rord : W.ownsRow n0 3 1 (.slice (some ⟨gr, 0, none⟩) n n) n (ord.map (Value.int .i64))
  ne : go ≠ gr
  lr : R.length = n
  lo : out.length = n
  ld : ord.length = n

theorem WS.nes {n0 B8 b cap go gr n : Nat} {R : List Rat2} {out ord : List Int} {W : World} (h : WS n0 B8 b cap go gr n R out ord W) : b ≠ B8 ∧ go ≠ B8 ∧ gr ≠ B8 ∧ b ≠ go ∧ b ≠ gr :=
  ⟨row_ne_box h.row h.box (by decide), row_ne_box h.rout h.box (by decide), row_ne_box h.rord h.box (by decide), row_ne h.row h.rout (by decide), row_ne h.row h.rord (by decide)⟩
theorem WS.lt {n0 B8 b cap go gr n : Nat} {R : List Rat2} {out ord : List Int} {W : World} (h : WS n0 B8 b cap go gr n R out ord W) : B8 < W.heap.size ∧ b < W.heap.size ∧ go < W.heap.size ∧ gr < W.heap.size ∧ n0 ≤ b ∧ n0 ≤ go ∧ n0 ≤ gr := by
  obtain ⟨_, h1, h2⟩ := row_block h.row
  obtain ⟨_, h3, h4⟩ := row_block h.rout
  obtain ⟨_, h5, h6⟩ := row_block h.rord
  exact ⟨(Array.getElem?_eq_some_iff.1 h.box).1, (Array.getElem?_eq_some_iff.1 h2).1, (Array.getElem?_eq_some_iff.1 h4).1, (Array.getElem?_eq_some_iff.1 h6).1, h1, h3, h5⟩
theorem WS.block {n0 B8 b cap go gr n : Nat} {R : List Rat2} {out ord : List Int} {W W' : World} (h : WS n0 B8 b cap go gr n R out ord W) (hk : ∀ k, k = B8 ∨ k = b ∨ k = go ∨ k = gr → W'.heap[k]? = W.heap[k]?) : WS n0 B8 b cap go gr n R out ord W' :=
  ⟨(hk _ (.inl rfl)).trans h.box, row_keep h.row (hk _ (.inr (.inl rfl))), row_keep h.rout (hk _ (.inr (.inr (.inl rfl)))), row_keep h.rord (hk _ (.inr (.inr (.inr rfl)))), h.ne, h.lr, h.lo, h.ld⟩
theorem WS.below {n0 B8 b cap go gr n : Nat} {R : List Rat2} {out ord : List Int} {W W' : World} (h : WS n0 B8 b cap go gr n R out ord W) (hb : Below W.heap.size W W') : WS n0 B8 b cap go gr n R out ord W' :=
  h.block fun k hk => hb.block k (by
    obtain ⟨h1, h2, h3, h4, _⟩ := h.lt
    rcases hk with rfl | rfl | rfl | rfl <;> assumption)
theorem WS.setOut {n0 B8 b cap go gr n : Nat} {R : List Rat2} {out ord : List Int} {W : World} (h : WS n0 B8 b cap go gr n R out ord W) (k : Nat) (x : Int) : WS n0 B8 b cap go gr n R (out.set k x) ord (W.setCell ⟨go, k, none⟩ (.int .i64 x)) := by
  obtain ⟨h1, h2, h3, h4, h5⟩ := h.nes
  have hk : ∀ j, j ≠ go → (W.setCell ⟨go, k, none⟩ (.int .i64 x)).heap[j]? = W.heap[j]? := fun j hj => Below.heap_setCell _ _ _ j hj
  refine ⟨(hk _ (Ne.symm h2)).trans h.box, row_keep h.row (hk _ h4), ?_, row_keep h.rord (hk _ (Ne.symm h.ne)), h.ne, h.lr, by rw [List.length_set]; exact h.lo, h.ld⟩
  rw [List.map_set]
  exact (h.rout.stored k (.int .i64 x)).1
theorem WS.setOrd {n0 B8 b cap go gr n : Nat} {R : List Rat2} {out ord : List Int} {W : World} (h : WS n0 B8 b cap go gr n R out ord W) (k : Nat) (x : Int) : WS n0 B8 b cap go gr n R out (ord.set k x) (W.setCell ⟨gr, k, none⟩ (.int .i64 x)) := by
  obtain ⟨h1, h2, h3, h4, h5⟩ := h.nes
  have hk : ∀ j, j ≠ gr → (W.setCell ⟨gr, k, none⟩ (.int .i64 x)).heap[j]? = W.heap[j]? := fun j hj => Below.heap_setCell _ _ _ j hj
  refine ⟨(hk _ (Ne.symm h3)).trans h.box, row_keep h.row (hk _ h5), row_keep h.rout (hk _ h.ne), ?_, h.ne, h.lr, h.lo, by rw [List.length_set]; exact h.ld⟩
  rw [List.map_set]
  exact (h.rord.stored k (.int .i64 x)).1
theorem flatR_set1 : ∀ (l : List Rat2) (k : Nat) (x : Int), k < l.length → flatR (l.set k (x, (l.getD k (0, 0)).2)) = (flatR l).set (k * 2) (.int .i64 x)
  | y :: l, 0, x, _ => by simp [flatR, ratC]
  | y :: l, k + 1, x, h => by
    have ih := flatR_set1 l k x (by simpa using h)
    have e : ∀ l : List Rat2, flatR (y :: l) = ratC y ++ flatR l := fun l => by simp [flatR]
    rw [List.set_cons_succ, List.getD_cons_succ, e, e, ih]
    simp [ratC, show (k + 1) * 2 = k * 2 + 2 by omega]
theorem WS.setR {n0 B8 b cap go gr n : Nat} {R : List Rat2} {out ord : List Int} {W : World} (h : WS n0 B8 b cap go gr n R out ord W) (k : Nat) (x : Int) (hk : k < n) : WS n0 B8 b cap go gr n (R.set k (x, (R.getD k (0, 0)).2)) out ord (W.setCell ⟨b, k * 2, none⟩ (.int .i64 x)) := by
  obtain ⟨h1, h2, h3, h4, h5⟩ := h.nes
  have hb : ∀ j, j ≠ b → (W.setCell ⟨b, k * 2, none⟩ (.int .i64 x)).heap[j]? = W.heap[j]? := fun j hj => Below.heap_setCell _ _ _ j hj
  refine ⟨(hb _ (Ne.symm h1)).trans h.box, ?_, row_keep h.rout (hb _ (Ne.symm h4)), row_keep h.rord (hb _ (Ne.symm h5)), h.ne, by rw [List.length_set]; exact h.lr, h.lo, h.ld⟩
  rw [flatR_set1 R k x (by rw [h.lr]; exact hk)]
  exact (h.row.stored (k * 2) (.int .i64 x)).1

/-- What a round reads. -/
theorem WS.facts {n0 B8 b cap go gr n : Nat} {R : List Rat2} {out ord : List Int} {W : World} (h : WS n0 B8 b cap go gr n R out ord W) {k : Nat} (hk : k < n) :
    W.cell? ⟨B8, 0, none⟩ = some (.slice (some ⟨b, 0, none⟩) n cap) ∧ W.cell? ⟨b, k * 2, none⟩ = some (.int .i64 (R.getD k (0, 0)).1) ∧ W.cell? ⟨b, k * 2 + 1, none⟩ = some (.int .i64 (R.getD k (0, 0)).2) ∧
    W.cell? ⟨go, k, none⟩ = some (.int .i64 (out.getD k 0)) ∧ W.cell? ⟨gr, k, none⟩ = some (.int .i64 (ord.getD k 0)) ∧ W.frozen? ⟨b, k * 2, none⟩ = false ∧ W.frozen? ⟨go, k, none⟩ = false ∧ W.frozen? ⟨gr, k, none⟩ = false := by
  have hb := h.box
  obtain ⟨e1, e2⟩ := flatR_at R k (by rw [h.lr]; exact hk)
  refine ⟨by simp [World.cell?, hb], (h.row.cellAt _ (by omega)).trans e1, (h.row.cellAt _ (by omega)).trans e2, ?_, ?_, h.row.frozenAt _, h.rout.frozenAt _, h.rord.frozenAt _⟩
  · rw [h.rout.cellAt k (by omega)]; simp [List.getD_eq_getElem?_getD, h.lo, hk]
  · rw [h.rord.cellAt k (by omega)]; simp [List.getD_eq_getElem?_getD, h.ld, hk]

end Go.Proofs.Ytaakefjblldccaa
