/- How the tree of the reference lies in memory. -/
import Derived.Test.YtikcpfpeoofppaaTr
import Derived.Test.YtikcpfpeoofppaaSs
import Derived.Test.YtikcpfpeoofppaaD
import Derived.Test.YtikcpfpeoofppaaF
import Derived.Laws.Rows
namespace Go.Proofs.Ytikcpfpeoofppaa
open Go.RowKit

theorem row_block {W : World} {B g n cap sz : Nat} {e : TypeId} {xs : List Value} (h : W.ownsRow B e sz (.slice (some ⟨g, 0, none⟩) n cap) n xs) : ∃ cur, B ≤ g ∧ W.heap[g]? = some (.cells cur e (0, 0)) := by
  rcases h.2 with ⟨h1, _⟩ | ⟨g', cap', cur, h1, h2, h3, _⟩
  · cases h1
  · simp only [Value.slice.injEq, Option.some.injEq, Addr.mk.injEq] at h1
    obtain ⟨⟨rfl, -⟩, -, -⟩ := h1
    exact ⟨cur, h2, h3⟩
theorem row_ne {W : World} {B B' g g' n n' cap cap' sz sz' : Nat} {e e' : TypeId} {xs xs' : List Value} (h : W.ownsRow B e sz (.slice (some ⟨g, 0, none⟩) n cap) n xs) (h' : W.ownsRow B' e' sz' (.slice (some ⟨g', 0, none⟩) n' cap') n' xs') (hne : e ≠ e') : g ≠ g' := by
  rintro rfl
  obtain ⟨c, _, h1⟩ := row_block h
  obtain ⟨c', _, h2⟩ := row_block h'
  rw [h1] at h2
  simp only [Option.some.injEq, Obj.cells.injEq] at h2
  exact hne h2.2.1
theorem row_ne_box {W : World} {B g n cap sz Bx : Nat} {e e' : TypeId} {xs : List Value} {cs : Array Value} (h : W.ownsRow B e sz (.slice (some ⟨g, 0, none⟩) n cap) n xs) (h' : W.heap[Bx]? = some (.cells cs e' (0, 0))) (hne : e ≠ e') : g ≠ Bx := by
  rintro rfl
  obtain ⟨c, _, h1⟩ := row_block h
  rw [h1] at h'
  simp only [Option.some.injEq, Obj.cells.injEq] at h'
  exact hne h'.2.1
theorem row_keep {W W' : World} {B g n cap sz : Nat} {e : TypeId} {xs : List Value} (h : W.ownsRow B e sz (.slice (some ⟨g, 0, none⟩) n cap) n xs) (hk : W'.heap[g]? = W.heap[g]?) : W'.ownsRow B e sz (.slice (some ⟨g, 0, none⟩) n cap) n xs :=
  ownsRow_of_block h (fun k e => by simp [Value.ownBlock] at e; subst e; exact hk)

/-- The tree at Bx: its order at go, its tables at gf and gb. -/
structure TreeM (n0 Bx go cap gf gb N : Nat) (o f : List Int) (b : List Deed) (W : World) : Prop where
  bx : W.heap[Bx]? = some (.cells #[.slice (some ⟨go, 0, none⟩) o.length cap, .slice (some ⟨gf, 0, none⟩) N N, .slice (some ⟨gb, 0, none⟩) N N] 91 (0, 0))
  ro : W.ownsRow n0 3 1 (.slice (some ⟨go, 0, none⟩) o.length cap) o.length (o.map (Value.int .i64))
  rf : W.ownsRow n0 3 1 (.slice (some ⟨gf, 0, none⟩) N N) N (f.map (Value.int .i64))
  rb : W.ownsRow n0 43 3 (.slice (some ⟨gb, 0, none⟩) N N) N (flatD b)
  ne : go ≠ gf
  hx : n0 ≤ Bx

theorem TreeM.block {n0 Bx go cap gf gb N : Nat} {o f : List Int} {b : List Deed} {W W' : World} (h : TreeM n0 Bx go cap gf gb N o f b W) (hk : ∀ k, k = Bx ∨ k = go ∨ k = gf ∨ k = gb → W'.heap[k]? = W.heap[k]?) : TreeM n0 Bx go cap gf gb N o f b W' :=
  ⟨(hk _ (.inl rfl)).trans h.bx, row_keep h.ro (hk _ (.inr (.inl rfl))), row_keep h.rf (hk _ (.inr (.inr (.inl rfl)))), row_keep h.rb (hk _ (.inr (.inr (.inr rfl)))), h.ne, h.hx⟩
theorem TreeM.lt {n0 Bx go cap gf gb N : Nat} {o f : List Int} {b : List Deed} {W : World} (h : TreeM n0 Bx go cap gf gb N o f b W) : Bx < W.heap.size ∧ go < W.heap.size ∧ gf < W.heap.size ∧ gb < W.heap.size ∧ n0 ≤ go ∧ n0 ≤ gf ∧ n0 ≤ gb := by
  obtain ⟨_, h1, h2⟩ := row_block h.ro
  obtain ⟨_, h3, h4⟩ := row_block h.rf
  obtain ⟨_, h5, h6⟩ := row_block h.rb
  exact ⟨(Array.getElem?_eq_some_iff.1 h.bx).1, (Array.getElem?_eq_some_iff.1 h2).1, (Array.getElem?_eq_some_iff.1 h4).1, (Array.getElem?_eq_some_iff.1 h6).1, h1, h3, h5⟩
theorem TreeM.below {n0 Bx go cap gf gb N : Nat} {o f : List Int} {b : List Deed} {W W' : World} (h : TreeM n0 Bx go cap gf gb N o f b W) (hb : Below W.heap.size W W') : TreeM n0 Bx go cap gf gb N o f b W' :=
  h.block fun k hk => hb.block k (by
    obtain ⟨h1, h2, h3, h4, _⟩ := h.lt
    rcases hk with rfl | rfl | rfl | rfl <;> assumption)
theorem TreeM.nes {n0 Bx go cap gf gb N : Nat} {o f : List Int} {b : List Deed} {W : World} (h : TreeM n0 Bx go cap gf gb N o f b W) : go ≠ Bx ∧ gf ≠ Bx ∧ gb ≠ Bx ∧ go ≠ gb ∧ gf ≠ gb :=
  ⟨row_ne_box h.ro h.bx (by decide), row_ne_box h.rf h.bx (by decide), row_ne_box h.rb h.bx (by decide), row_ne h.ro h.rb (by decide), row_ne h.rf h.rb (by decide)⟩

theorem TreeM.cells {n0 Bx go cap gf gb N : Nat} {o f : List Int} {b : List Deed} {W : World} (h : TreeM n0 Bx go cap gf gb N o f b W) :
    W.cell? ⟨Bx, 0, none⟩ = some (.slice (some ⟨go, 0, none⟩) o.length cap) ∧ W.cell? ⟨Bx, 1, none⟩ = some (.slice (some ⟨gf, 0, none⟩) N N) ∧ W.cell? ⟨Bx, 2, none⟩ = some (.slice (some ⟨gb, 0, none⟩) N N) ∧
    (∀ j, W.frozen? ⟨Bx, j, none⟩ = false) := by
  have h1 := h.bx
  refine ⟨?_, ?_, ?_, fun j => ?_⟩ <;> simp [World.cell?, World.frozen?, h1]
theorem TreeM.ord {n0 Bx go cap gf gb N : Nat} {o f : List Int} {b : List Deed} {W : World} (h : TreeM n0 Bx go cap gf gb N o f b W) {i : Nat} (hi : i < o.length) : W.cell? ⟨go, i, none⟩ = some (.int .i64 (o.getD i 0)) := by
  rw [h.ro.cellAt i (by omega)]
  simp [List.getD_eq_getElem?_getD, hi]
theorem TreeM.frm {n0 Bx go cap gf gb N : Nat} {o f : List Int} {b : List Deed} {W : World} (h : TreeM n0 Bx go cap gf gb N o f b W) (hl : f.length = N) {i : Nat} (hi : i < N) : W.cell? ⟨gf, i, none⟩ = some (.int .i64 (f.getD i 0)) ∧ W.frozen? ⟨gf, i, none⟩ = false := by
  refine ⟨?_, h.rf.frozenAt i⟩
  rw [h.rf.cellAt i (by omega)]
  simp [List.getD_eq_getElem?_getD, hl, hi]
theorem TreeM.deed {n0 Bx go cap gf gb N : Nat} {o f : List Int} {b : List Deed} {W : World} (h : TreeM n0 Bx go cap gf gb N o f b W) (hl : b.length = N) {i : Nat} (hi : i < N) :
    (W.cell? ⟨gb, i * 3, none⟩ = some (.int .i64 (b.getD i noDeed).1) ∧ W.cell? ⟨gb, i * 3 + 1, none⟩ = some (.int .i64 (b.getD i noDeed).2.1) ∧ W.cell? ⟨gb, i * 3 + 2, none⟩ = some (.int .i64 (b.getD i noDeed).2.2)) ∧ ∀ j, W.frozen? ⟨gb, j, none⟩ = false := by
  obtain ⟨h1, h2, h3⟩ := flatD_at b i (by omega)
  exact ⟨⟨(h.rb.cellAt _ (by omega)).trans h1, (h.rb.cellAt _ (by omega)).trans h2, (h.rb.cellAt _ (by omega)).trans h3⟩, fun j => h.rb.frozenAt j⟩
theorem TreeM.ints {n0 Bx go cap gf gb N : Nat} {o f : List Int} {b : List Deed} {W : World} (h : TreeM n0 Bx go cap gf gb N o f b W) (hl : o.length ≤ 100000) : IntsAt W (.slice (some ⟨go, 0, none⟩) o.length cap) o := own_ints h.ro (by omega)

theorem flatD_set : ∀ (b : List Deed) (i : Nat) (d : Deed), i < b.length → flatD (b.set i d) = (((flatD b).set (i * 3) (.int .i64 d.1)).set (i * 3 + 1) (.int .i64 d.2.1)).set (i * 3 + 2) (.int .i64 d.2.2)
  | x :: b, 0, d, _ => by simp [flatD, deedC]
  | x :: b, i + 1, d, h => by
    have ih := flatD_set b i d (by simpa using h)
    have e : ∀ l : List Deed, flatD (x :: l) = deedC x ++ flatD l := fun l => by simp [flatD]
    rw [List.set_cons_succ, e, e, ih]
    simp [deedC, show (i + 1) * 3 = i * 3 + 3 by omega]

/-- A store into the table of numbers. -/
theorem TreeM.setFrom {n0 Bx go cap gf gb N : Nat} {o f : List Int} {b : List Deed} {W : World} (h : TreeM n0 Bx go cap gf gb N o f b W) (i : Nat) (x : Int) : TreeM n0 Bx go cap gf gb N o (f.set i x) b (W.setCell ⟨gf, i, none⟩ (.int .i64 x)) := by
  obtain ⟨h1, h2, h3, h4, h5⟩ := h.nes
  have hk : ∀ k, k ≠ gf → (W.setCell ⟨gf, i, none⟩ (.int .i64 x)).heap[k]? = W.heap[k]? := fun k hk => Below.heap_setCell _ _ _ k hk
  refine ⟨(hk _ (fun e => h2 e.symm)).trans h.bx, row_keep h.ro (hk _ h.ne), ?_, row_keep h.rb (hk _ (fun e => h5 e.symm)), h.ne, h.hx⟩
  rw [List.map_set]
  exact (h.rf.stored i (.int .i64 x)).1
/-- A store into the table of deeds. -/
theorem TreeM.setBy {n0 Bx go cap gf gb N : Nat} {o f : List Int} {b : List Deed} {W : World} (h : TreeM n0 Bx go cap gf gb N o f b W) (i : Nat) (d : Deed) (hi : i < b.length) :
    TreeM n0 Bx go cap gf gb N o f (b.set i d) (((W.setCell ⟨gb, i * 3, none⟩ (.int .i64 d.1)).setCell ⟨gb, i * 3 + 1, none⟩ (.int .i64 d.2.1)).setCell ⟨gb, i * 3 + 2, none⟩ (.int .i64 d.2.2)) := by
  obtain ⟨h1, h2, h3, h4, h5⟩ := h.nes
  have hk : ∀ k, k ≠ gb → (((W.setCell ⟨gb, i * 3, none⟩ (.int .i64 d.1)).setCell ⟨gb, i * 3 + 1, none⟩ (.int .i64 d.2.1)).setCell ⟨gb, i * 3 + 2, none⟩ (.int .i64 d.2.2)).heap[k]? = W.heap[k]? := fun k hk =>
    (Below.heap_setCell _ _ _ k hk).trans ((Below.heap_setCell _ _ _ k hk).trans (Below.heap_setCell _ _ _ k hk))
  refine ⟨(hk _ (fun e => h3 e.symm)).trans h.bx, row_keep h.ro (hk _ h4), row_keep h.rf (hk _ h5), ?_, h.ne, h.hx⟩
  rw [flatD_set b i d hi]
  exact ((((h.rb.stored _ _).1).stored _ _).1.stored _ _).1
/-- An append to the order: w1 is the world behind it, and then the box is written. -/
theorem TreeM.app {n0 Bx go cap gf gb N g' cap' : Nat} {o f : List Int} {b : List Deed} {W w1 : World} {tmp : Obj} {x : Int} (h : TreeM n0 Bx go cap gf gb N o f b W)
    (hown : w1.ownsRow n0 3 1 (.slice (some ⟨g', 0, none⟩) (o.length + 1) cap') (o.length + 1) (o.map (Value.int .i64) ++ [.int .i64 x])) (hg : (W.alloc tmp).grownBy w1 (some go)) (hat : some go = some g' ∨ g' = W.heap.size + 1) :
    TreeM n0 Bx g' cap' gf gb N (o ++ [x]) f b (w1.setCell ⟨Bx, 0, none⟩ (.slice (some ⟨g', 0, none⟩) (o.length + 1) cap')) ∧ (∀ k, k < W.heap.size → k ≠ go → k ≠ Bx → (w1.setCell ⟨Bx, 0, none⟩ (.slice (some ⟨g', 0, none⟩) (o.length + 1) cap')).heap[k]? = W.heap[k]?) ∧
      w1.cell? ⟨Bx, 0, none⟩ = some (.slice (some ⟨go, 0, none⟩) o.length cap) ∧ w1.frozen? ⟨Bx, 0, none⟩ = false ∧ W.heap.size ≤ w1.heap.size := by
  obtain ⟨h1, h2, h3, h4, h5⟩ := h.nes
  obtain ⟨l1, l2, l3, l4, l5, l6, l7⟩ := h.lt
  have hk : ∀ k, k < W.heap.size → k ≠ go → w1.heap[k]? = W.heap[k]? := fun k hk hne => (hg.block k (by simp; omega) (fun e => hne (by simpa using e))).trans (Below.heap_alloc _ _ _ hk)
  have hb1 := (hk Bx l1 (fun e => h1 e.symm)).trans h.bx
  have gf' : g' ≠ gf ∧ g' ≠ Bx ∧ g' ≠ gb := by
    rcases hat with hat | hat
    · simp only [Option.some.injEq] at hat
      subst hat
      exact ⟨h.ne, h1, h4⟩
    · exact ⟨by omega, by omega, by omega⟩
  have hs : ∀ k, k ≠ Bx → (w1.setCell ⟨Bx, 0, none⟩ (.slice (some ⟨g', 0, none⟩) (o.length + 1) cap')).heap[k]? = w1.heap[k]? := fun k hk => Below.heap_setCell _ _ _ k hk
  refine ⟨⟨?_, ?_, row_keep h.rf ((hs _ h2).trans (hk _ l3 (fun e => h.ne e.symm))), row_keep h.rb ((hs _ h3).trans (hk _ l4 (fun e => h4 e.symm))), gf'.1, h.hx⟩, fun k a b c => (hs k c).trans (hk k a b), ?_, ?_, ?_⟩
  · rw [heap_setCell_same _ _ _ _ _ _ hb1]
    simp
  · have := row_keep hown (hs _ gf'.2.1)
    simpa using this
  · simp [World.cell?, hb1]
  · simp [World.frozen?, hb1]
  · have := hg.size
    simp at this
    omega

end Go.Proofs.Ytikcpfpeoofppaa
